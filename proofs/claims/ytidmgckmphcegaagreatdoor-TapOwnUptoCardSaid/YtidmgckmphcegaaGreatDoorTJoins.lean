/-
 TapJoins, walked: Assemble of two texts, one behind the other.
-/
import Derived.Test.YtidmgckmphcegaaGreatDoorMM
import Derived.Test.YtidmgckmphcegaaGreatDoorMK
namespace Go.Proofs.YtidmgckmphcegaaGreatDoor
open Go.RowKit Go.Proofs.YtidmgckmphcegaaGreatDoorW.PrintWords Go.Proofs.YtidmgckmphcegaaGreatDoorW.PrintLast Go.Proofs.YtidmgckmphcegaaGreatDoor.Px
set_option linter.unusedVariables false
set_option linter.unusedSimpArgs false
theorem gasmL_byt : ∀ (ls : List (List UInt8)) (out o : List Int), (∀ x ∈ out, 0 ≤ x ∧ x ≤ 255) → gasmL ls out = .ok o → ∀ x ∈ o, 0 ≤ x ∧ x ≤ 255
 | [], out, o, h, e => by rw [gasmL] at e; injection e with e; subst e; exact h
 | l :: r, out, o, h, e => by
   rw [gasmL] at e
   split at e
   · cases e
   · rename_i b hb
     exact gasmL_byt r _ o (fun x hx => (List.mem_append.1 hx).elim (h x) (gline_bytes hb x)) e
theorem gasm_byt {t : List UInt8} {o : List Int} (e : gasm t = .ok o) : ∀ x ∈ o, 0 ≤ x ∧ x ≤ 255 := gasmL_byt _ _ _ (by simp) e
theorem gasmL_len : ∀ (ls : List (List UInt8)) (out o : List Int), gasmL ls out = .ok o → o.length ≤ out.length + (ls.map fun l => l.length + 12).sum
 | [], out, o, e => by rw [gasmL] at e; injection e with e; subst e; simp
 | l :: r, out, o, e => by
   rw [gasmL] at e
   split at e
   · cases e
   · rename_i b hb
     have h1 := gasmL_len r _ o e
     have h2 := gline_len hb
     rw [List.length_append] at h1
     rw [List.map_cons, List.sum_cons]
     omega
theorem sum_12 : ∀ ls : List (List UInt8), (ls.map fun l => l.length + 12).sum = sumL ls + 12 * ls.length
 | [] => rfl
 | l :: r => by
   have ih := sum_12 r
   simp only [List.map_cons, List.sum_cons, List.length_cons, sumL] at ih ⊢
   omega
theorem gasm_len {t : List UInt8} {o : List Int} (e : gasm t = .ok o) : o.length ≤ 13 * t.length + 12 := by
 have h1 := gasmL_len _ _ _ e
 rw [sum_12] at h1
 have h2 := spl_sum 10 t
 have h3 := spl_count 10 t
 simp at h1
 omega
end Go.Proofs.YtidmgckmphcegaaGreatDoor
