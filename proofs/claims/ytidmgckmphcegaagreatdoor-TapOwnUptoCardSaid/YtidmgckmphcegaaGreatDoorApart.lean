/-
 culvertlaw01.Apart: of rows in blocks of their own.
-/
import Derived.Test.YtidmgckmphcegaaGreatDoorCR
import Derived.Deep.LoopGhost
import Derived.WalkMore
import Derived.WalkSmall
import Derived.Deep.OwnRows
namespace Go.Proofs.YtidmgckmphcegaaGreatDoor
open Go.RowKit
set_option linter.unusedVariables false
set_option linter.unusedSimpArgs false
theorem CR.set {W : World} {b o n c k : Nat} {f : Nat → Int} (h : CR W b o n c f) (hb : b < W.heap.size) (hk : k < n) (y : Int) : CR (W.setCell ⟨b, o + k, none⟩ (.int .u8 y)) b o n c (fun j => if j = k then y else f j) := by
 have hsp : Spr W (W.setCell ⟨b, o + k, none⟩ (.int .u8 y)) b 0 := Spr.set (Nat.zero_le _) _
 refine ⟨h.le, h.max, fun j hj => ?_, fun j hj => ⟨hsp.there _ hb (h.there j hj).1, (hsp.frozen _ hb).trans (h.there j hj).2⟩⟩
 by_cases e : j = k
 · subst e
   rw [if_pos rfl]
   exact World.cell?_setCell_same _ _ _ (h.rd j hj)
 · rw [if_neg e, World.cell?_setCell_other _ _ _ _ (by simp <;> omega)]
   exact h.rd j hj
def p7 (i k : Nat) : Int := (7 * (i : Int) + k) % 256
def g11 (i k : Nat) : Int := (11 * (i : Int) + k + 3) % 256
end Go.Proofs.YtidmgckmphcegaaGreatDoor
