/-
 The two texts of a header are one: plain Lean.
-/
import Derived.Test.YtidmgckmphcegaaGreatDoorRTextA
namespace Go.Proofs.YtidmgckmphcegaaGreatDoor
open Go.RowKit
set_option linter.unusedVariables false
set_option linter.unusedSimpArgs false
def ls (b : ByteArray) : List UInt8 := b.data.toList
theorem ls_app (a b : ByteArray) : ls (a ++ b) = ls a ++ ls b := by simp [ls, ByteArray.data_append]
def tl (xs : List ByteArray) : List UInt8 := (xs.map fun x => 32 :: ls x).flatten
theorem tl_app (xs ys : List ByteArray) : tl (xs ++ ys) = tl xs ++ tl ys := by simp [tl]
theorem join_tl (x : ByteArray) (xs : List ByteArray) : Lib.join ((x :: xs).map (·.data.toList)) [32] = ls x ++ tl xs := by
 rw [List.map_cons, Lib.join_cons]
 simp [Lib.joinTail, tl, ls, Function.comp_def]
theorem ba_of {a : ByteArray} {l : List UInt8} (h : ls a = l) : a = ⟨l.toArray⟩ := by
 subst h
 apply ByteArray.ext
 simp [ls]
theorem and_bit (fl k : Nat) (hfl : fl ≤ 65535) (hk : k < 4) : bits .and .u16 (fl : Int) ((2 ^ k : Nat) : Int) = (((fl / 2 ^ k % 2) * 2 ^ k : Nat) : Int) := by
 have h2 : 2 ^ k < 65536 := by
  have : 2 ^ k ≤ 2 ^ 4 := Nat.pow_le_pow_right (by omega) (by omega)
  omega
 rw [u16_and_nat _ _ (by omega) h2, and_pow]
theorem rfl1_tl (fl k : Nat) (hfl : fl ≤ 65535) (hk : k < 4) : ls (rfl1 fl ((2 ^ k : Nat) : Int) (flW k)) = tl (if fl / 2 ^ k % 2 = 1 then [flW k] else []) := by
 unfold rfl1
 rw [and_bit fl k hfl hk]
 by_cases h : fl / 2 ^ k % 2 = 1
 · have hp : 0 < 2 ^ k := Nat.pow_pos (by omega)
   rw [if_pos h, if_neg (by rw [h]; omega), ls_app]
   simp [tl, ls]
 · have h0 : fl / 2 ^ k % 2 = 0 := by omega
   rw [if_neg h, if_pos (by rw [h0]; simp)]
   simp [tl, ls]
theorem rfls_tl (ty ver fl : Nat) (hfl : fl ≤ 65535) : ls (rfls ty ver fl) = ls (rver ty ver) ++ tl (flagW fl 4) := by
 have a0 : ls (rfl1 fl 1 ⟨#[115, 121, 110]⟩) = _ := rfl1_tl fl 0 hfl (by omega)
 have a1 : ls (rfl1 fl 2 ⟨#[97, 99, 107]⟩) = _ := rfl1_tl fl 1 hfl (by omega)
 have a2 : ls (rfl1 fl 4 ⟨#[102, 105, 110]⟩) = _ := rfl1_tl fl 2 hfl (by omega)
 have a3 : ls (rfl1 fl 8 ⟨#[114, 115, 116]⟩) = _ := rfl1_tl fl 3 hfl (by omega)
 unfold rfls
 rw [ls_app, ls_app, ls_app, ls_app, a0, a1, a2, a3]
 simp only [flagW, tl_app, List.nil_append, List.append_assoc]
theorem kind_tl (ty : Nat) : ∃ x xs, kindW ty = x :: xs ∧ ls (rkind ty) = ls x ++ tl xs := by
 unfold kindW rkind
 split
 · exact ⟨_, _, rfl, by simp [tl]⟩
 · refine ⟨_, _, rfl, ?_⟩
   rw [ls_app]
   simp [tl, ls]
theorem rver_tl (ty ver : Nat) : ls (rver ty ver) = ls (rkind ty) ++ tl (verW ver) := by
 unfold rver verW
 split
 · simp [tl]
 · rw [ls_app, ls_app]
   simp [tl, ls]
theorem rrest_tl (ty ver fl : Nat) : ls (rrest ty ver fl) = ls (rfls ty ver fl) ++ tl (restW fl) := by
 unfold rrest restW
 by_cases h : fl ≤ 15
 · rw [if_pos h, if_pos (by omega)]
   simp [tl]
 · rw [if_neg h, if_neg (by omega), ls_app, ls_app]
   simp [tl, ls]
theorem rall_eq (ver ty fl st ln : Nat) (hfl : fl ≤ 65535) : rall ver ty fl st ln = ⟨(textB ver ty fl st ln).toArray⟩ := by
 apply ba_of
 obtain ⟨x, xs, hk, hl⟩ := kind_tl ty
 unfold textB allW
 rw [hk]
 simp only [List.cons_append]
 rw [join_tl]
 unfold rall
 simp only [ls_app, rrest_tl, rfls_tl ty ver fl hfl, rver_tl, hl, tl_app, List.append_assoc]
 simp [tl, ls]
end Go.Proofs.YtidmgckmphcegaaGreatDoor
