/-
  Layer 18: worlds that differ in some blocks; blocks known whole.
-/
import Derived.Test.YtnpmafnhbbaokaaGreatDoorKeep
import Derived.Test.YtnpmafnhbbaokaaGreatDoorEnc
namespace Go.Proofs.YtnpmafnhbbaokaaGreatDoor
open Go Go.RowKit
set_option linter.unusedVariables false
set_option linter.unusedSimpArgs false
/-- w1 is w but for the blocks of L, and for new blocks. -/
structure Ch (L : List Nat) (w w1 : World) : Prop where
  os : w1.os = w.os
  tape : w1.tape = w.tape
  output : w1.output = w.output
  size : w.heap.size ≤ w1.heap.size
  block : ∀ k, k < w.heap.size → k ∉ L → w1.heap[k]? = w.heap[k]?
theorem Ch.refl (L : List Nat) (w : World) : Ch L w w := ⟨rfl, rfl, rfl, Nat.le_refl _, fun _ _ _ => rfl⟩
theorem Ch.of_below {L : List Nat} {w w1 : World} (h : Below w.heap.size w w1) : Ch L w w1 := ⟨h.os, h.tape, h.output, h.size, fun k hk _ => h.block k hk⟩
theorem Ch.alloc {L : List Nat} {w w1 : World} (h : Ch L w w1) (o : Obj) : Ch L w (w1.alloc o) :=
  ⟨h.os, h.tape, h.output, by have := h.size; simp; omega, fun k hk hn => (Below.heap_alloc _ _ _ (Nat.lt_of_lt_of_le hk h.size)).trans (h.block k hk hn)⟩
theorem Ch.drew {L : List Nat} {w w1 : World} (h : Ch L w w1) : Ch L w w1.drew := ⟨h.os, h.tape, h.output, h.size, h.block⟩
theorem Ch.drewN {L : List Nat} {w w1 : World} (h : Ch L w w1) (n : Nat) : Ch L w (w1.drewN n) := ⟨h.os, h.tape, h.output, h.size, h.block⟩
theorem Ch.set {L : List Nat} {w w1 : World} (h : Ch L w w1) {b i : Nat} (hb : b ∈ L ∨ w.heap.size ≤ b) (v : Value) : Ch L w (w1.setCell ⟨b, i, none⟩ v) :=
  ⟨h.os, h.tape, h.output, by have := h.size; simp; omega, fun k hk hn => (Below.heap_setCell _ _ _ _ (show k ≠ b from fun e => hb.elim (fun h' => hn (e ▸ h')) (fun h' => by omega))).trans (h.block k hk hn)⟩
theorem Ch.trans {L M : List Nat} {w w1 w2 : World} (h : Ch L w w1) (k : Ch M w1 w2) (hm : ∀ j ∈ M, j ∈ L ∨ w.heap.size ≤ j) : Ch L w w2 :=
  ⟨k.os.trans h.os, k.tape.trans h.tape, k.output.trans h.output, Nat.le_trans h.size k.size, fun j hj hn => (k.block j (Nat.lt_of_lt_of_le hj h.size) (fun hjm => (hm j hjm).elim hn (fun e => by omega))).trans (h.block j hj hn)⟩
theorem Ch.mono {L M : List Nat} {w w1 : World} (h : Ch L w w1) (hm : ∀ j ∈ L, j ∈ M ∨ w.heap.size ≤ j) : Ch M w w1 :=
  ⟨h.os, h.tape, h.output, h.size, fun j hj hn => h.block j hj (fun e => (hm j e).elim hn (fun e' => by omega))⟩
theorem Ch.grown {L : List Nat} {w w1 w2 : World} {row : Option Nat} (h : Ch L w w1) (hg : w1.grownBy w2 row) (hr : ∀ k, row = some k → k ∈ L ∨ w.heap.size ≤ k) : Ch L w w2 :=
  ⟨hg.os.trans h.os, hg.tape.trans h.tape, hg.output.trans h.output, Nat.le_trans h.size hg.size, fun j hj hn => (hg.block j (Nat.lt_of_lt_of_le hj h.size) (fun e => (hr j e.symm).elim hn (fun e' => by omega))).trans (h.block j hj hn)⟩
theorem Ch.below {L : List Nat} {w w1 : World} {B : Nat} (h : Ch L w w1) (hL : ∀ j ∈ L, B ≤ j) (hB : B ≤ w.heap.size) : Below B w w1 :=
  ⟨h.os, h.tape, h.output, h.size, fun k hk => h.block k (by omega) (fun e => by have := hL k e; omega)⟩
theorem Ch.at_ {L : List Nat} {w w1 : World} (h : Ch L w w1) {b : Nat} {o : Obj} (hb : w.heap[b]? = some o) (hn : b ∉ L) : w1.heap[b]? = some o :=
  (h.block b (Array.getElem?_eq_some_iff.1 hb).1 hn).trans hb
theorem blk_lt {w : World} {b : Nat} {o : Obj} (h : w.heap[b]? = some o) : b < w.heap.size := (Array.getElem?_eq_some_iff.1 h).1
theorem drew_blk {w : World} {b : Nat} {o : Obj} (h : w.heap[b]? = some o) : w.drew.heap[b]? = some o := h
theorem alloc_old {w : World} {b : Nat} {o : Obj} (p : Obj) (h : w.heap[b]? = some o) : (w.alloc p).heap[b]? = some o := (blk_old _ (blk_lt h)).trans h
theorem setO {w : World} {b c i : Nat} {o : Obj} (v : Value) (h : w.heap[b]? = some o) (hn : b ≠ c) : (w.setCell ⟨c, i, none⟩ v).heap[b]? = some o := (Below.heap_setCell _ _ _ _ hn).trans h
theorem alloc_is {w : World} {k : Nat} (o : Obj) (hk : w.heap.size = k) : (w.alloc o).heap[k]? = some o := by rw [← hk]; exact alloc_at w o
theorem set_is {w : World} {g j : Nat} {cs cs' : Array Value} {t : TypeId} {fz : Nat × Nat} {v : Value} (h : w.heap[g]? = some (.cells cs t fz)) (e : cs.setIfInBounds j v = cs') : (w.setCell ⟨g, j, none⟩ v).heap[g]? = some (.cells cs' t fz) := by rw [← e]; exact set_blk v h
end Go.Proofs.YtnpmafnhbbaokaaGreatDoor
