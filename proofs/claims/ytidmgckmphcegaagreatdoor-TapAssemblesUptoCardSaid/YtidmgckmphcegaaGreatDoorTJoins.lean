/-
  TapJoins, walked: Assemble of two texts, one behind the other.
-/
import Derived.Test.YtidmgckmphcegaaGreatDoorMM
import Derived.Test.YtidmgckmphcegaaGreatDoorMK
namespace Go.Proofs.YtidmgckmphcegaaGreatDoor
open Go.RowKit Go.Proofs.YtidmgckmphcegaaGreatDoorW.PrintWords Go.Proofs.YtidmgckmphcegaaGreatDoorW.PrintLast Go.Proofs.YtidmgckmphcegaaGreatDoor.Px
set_option linter.unusedVariables false
set_option linter.unusedSimpArgs false
theorem gline_err {l : List UInt8} {c : Nat} (h : gline l = .error c) : c = 40 ∨ c = 41 ∨ c = 15 := by
  unfold gline at h
  split at h
  · cases h
  · split at h
    · cases h
    · split at h
      · split at h
        · split at h
          · injection h with h; omega
          · cases h
        · injection h with h; omega
      · split at h
        · rename_i e he
          injection h with h
          exact gparse_err (by rw [he, h])
        · cases h
theorem gasmL_err : ∀ (ls : List (List UInt8)) (out : List Int) (c : Nat), gasmL ls out = .error c → c = 40 ∨ c = 41 ∨ c = 15
  | [], out, c, h => by simp [gasmL] at h
  | l :: r, out, c, h => by
    rw [gasmL] at h
    split at h
    · rename_i e he; injection h with h; exact gline_err (by rw [he, h])
    · exact gasmL_err r _ c h
theorem gasm_err {t : List UInt8} {c : Nat} (h : gasm t = .error c) : c = 40 ∨ c = 41 ∨ c = 15 := gasmL_err _ _ _ h
theorem gasmL_byt : ∀ (ls : List (List UInt8)) (out o : List Int), (∀ x ∈ out, 0 ≤ x ∧ x ≤ 255) → gasmL ls out = .ok o → ∀ x ∈ o, 0 ≤ x ∧ x ≤ 255
  | [], out, o, h, e => by rw [gasmL] at e; injection e with e; subst e; exact h
  | l :: r, out, o, h, e => by
    rw [gasmL] at e
    split at e
    · cases e
    · rename_i b hb
      exact gasmL_byt r _ o (fun x hx => (List.mem_append.1 hx).elim (h x) (gline_bytes hb x)) e
theorem gasm_byt {t : List UInt8} {o : List Int} (e : gasm t = .ok o) : ∀ x ∈ o, 0 ≤ x ∧ x ≤ 255 := gasmL_byt _ _ _ (by simp) e
end Go.Proofs.YtidmgckmphcegaaGreatDoor
