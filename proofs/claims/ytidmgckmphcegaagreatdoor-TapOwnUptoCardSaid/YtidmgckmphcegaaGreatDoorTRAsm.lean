/-
 What the reference's Assemble (culvertref26) computes, without a program, and that it is what tap.Assemble computes.
-/
import Derived.Test.YtidmgckmphcegaaGreatDoorTRef
import Derived.Test.YtidmgckmphcegaaGreatDoorMF
namespace Go.Proofs.YtidmgckmphcegaaGreatDoor
open Go Go.RowKit
set_option linter.unusedVariables false
set_option linter.unusedSimpArgs false
def rline (line : List UInt8) : Except Nat (List Int) :=
 match firstW line with
 | none => .ok []
 | some w =>
   if w.headD 0 = 35 then .ok []
   else if w = wBytes ∧ (spl 32 line).headD [] = wBytes then
    (if (spl 32 line).length ≠ 2 then .error 41
     else match read ((spl 32 line).getD 1 []) with | none => .error 41 | some d => .ok d)
   else if w = wBytes then .error 41
   else match rparse line with
    | .error e => .error e
    | .ok (h, d) => .ok (encH h d)
theorem read_blank {l : List UInt8} (h : (32 : UInt8) ∈ l) : read l = none := by
 cases hr : read l with
 | none => rfl
 | some d =>
   obtain ⟨h1, h2⟩ := read_sound hr
   rw [← h1] at h
   exact absurd rfl (told_no h2 32 h)
theorem line_eq (line : List UInt8) : rline line = gline line := by
 unfold rline gline
 cases hf : firstW line with
 | none => rfl
 | some w =>
   simp only
   by_cases h35 : w.headD 0 = 35
   · rw [if_pos h35, if_pos h35]
   · rw [if_neg h35, if_neg h35]
     by_cases hw : w = wBytes
     · subst hw
       simp only [if_true, true_and]
       have hb : ∀ x ∈ wBytes, x ≠ 32 := by decide
       rcases spl_cons 32 line with ⟨a, r, h1, h2, h3⟩ | ⟨h1, h2⟩
       · by_cases ha : a = wBytes
         · have hp : Lib.hasPrefix line wBytes_ = true := by
             unfold Lib.hasPrefix
             rw [List.isPrefixOf_iff_prefix, h1, ha]
             exact ⟨r, by simp [wBytes, wBytes_]⟩
           have hd : line.drop 6 = r := by rw [h1, ha]; rfl
           rw [if_pos (by rw [h3]; exact ha), if_pos hp, hd, h3]
           rcases spl_cons 32 r with ⟨b, q, g1, g2, g3⟩ | ⟨g1, g2⟩
           · have hne := spl_ne 32 q
             have hlen : 1 ≤ (spl 32 q).length := List.length_pos_iff.2 hne
             rw [g3, if_pos (by simp; omega), read_blank (by rw [g1]; simp)]
           · rw [g2, if_neg (by simp)]
             rfl
         · have hp : ¬ Lib.hasPrefix line wBytes_ = true := by
             unfold Lib.hasPrefix
             rw [List.isPrefixOf_iff_prefix]
             rintro ⟨t, ht⟩
             have e : line = wBytes ++ 32 :: t := by rw [← ht]; simp [wBytes, wBytes_]
             have := spl_app 32 hb t
             rw [← e, h3] at this
             injection this with this _
             exact ha this
           rw [if_neg (fun hc => ha (by rw [h3] at hc; exact hc)), if_neg hp]
       · have hp : ¬ Lib.hasPrefix line wBytes_ = true := by
           unfold Lib.hasPrefix
           rw [List.isPrefixOf_iff_prefix]
           rintro ⟨t, ht⟩
           exact h1 32 (by rw [← ht]; simp [wBytes_]) rfl
         rw [if_neg hp]
         split
         · rw [h2, if_pos (by simp)]
         · rfl
     · rw [if_neg (fun hc => hw hc.1), if_neg hw, if_neg hw, parse_eq]
       rfl
end Go.Proofs.YtidmgckmphcegaaGreatDoor
