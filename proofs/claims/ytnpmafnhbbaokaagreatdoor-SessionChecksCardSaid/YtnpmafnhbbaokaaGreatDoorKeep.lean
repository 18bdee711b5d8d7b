/-
  Small lemmas on worlds in which what was there stays.
-/
import Derived.Test.YtnpmafnhbbaokaaGreatDoorBs
import Derived.Lib.Hide
namespace Go.Proofs.YtnpmafnhbbaokaaGreatDoor
open Go.RowKit

theorem keepA {W W' : World} (hb : Below W.heap.size W W') {a : Addr} {v : Value} (h : W.cell? a = some v) : W'.cell? a = some v := (hb.cell (World.block_lt_of_cell? W _ h)).trans h
theorem keepB {W W' : World} (hb : Below W.heap.size W W') {k : Nat} {o : Obj} (h : W.heap[k]? = some o) : W'.heap[k]? = some o := (hb.block k (Array.getElem?_eq_some_iff.1 h).1).trans h
theorem belowT {w W W' : World} (h : Below w.heap.size w W) (hb : Below W.heap.size W W') : Below w.heap.size w W' := h.trans (hb.mono h.size)
/-- A fact that holds at this world and at each later one in which all that is there now stays. -/
def Up (w : World) (F : World → Prop) : Prop := ∀ w', Below w.heap.size w w' → F w'
theorem Up.at_ {w w' : World} {F : World → Prop} (h : Up w F) (hb : Below w.heap.size w w') : F w' := h w' hb
theorem Up.now {w : World} {F : World → Prop} (h : Up w F) : F w := h w (Below.refl _ _)
theorem Up.next {w w1 : World} {F : World → Prop} (h : Up w F) (hb : Below w.heap.size w w1) : Up w1 F := fun w' h' => h w' (belowT hb h')
theorem below_da (w : World) (o : Obj) : Below w.drew.heap.size w.drew (w.alloc o).drew :=
  have h := (Below.refl w.heap.size w).alloc (Nat.le_refl _) o
  ⟨h.os, h.tape, h.output, h.size, h.block⟩
end Go.Proofs.YtnpmafnhbbaokaaGreatDoor
