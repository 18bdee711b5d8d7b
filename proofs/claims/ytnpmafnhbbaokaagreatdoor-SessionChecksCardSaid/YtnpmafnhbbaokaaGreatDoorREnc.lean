/-
  The reference's Encode.
-/
import Derived.Test.YtnpmafnhbbaokaaGreatDoorRBytes
import Derived.Test.YtnpmafnhbbaokaaGreatDoorEnc
import Derived.Test.YtnpmafnhbbaokaaGreatDoorBs
namespace Go.Proofs.YtnpmafnhbbaokaaGreatDoor
open Go.RowKit
set_option linter.unusedVariables false
set_option linter.unusedSimpArgs false
theorem row_bs {w : World} {base g : Nat} {n : Nat} {xs : List Int} (h : w.ownsRow base 5 1 (.slice (some ⟨g, 0, none⟩) n n) n (nums .u8 xs)) (hx : ∀ x ∈ xs, 0 ≤ x ∧ x ≤ 255) (hl : xs.length = n) (hn : n ≤ 100) : Bs w (some ⟨g, 0, none⟩) n n xs :=
  ⟨hl, Nat.le_refl _, by omega, hx, (fun e => by cases e), fun h0 => ⟨g, 0, rfl, fun j hj => by
    rw [Nat.zero_add, h.cellAt j (by omega)]
    simp [nums, List.getD_eq_getElem?_getD, List.getElem?_eq_getElem (show j < xs.length by omega)]⟩⟩

