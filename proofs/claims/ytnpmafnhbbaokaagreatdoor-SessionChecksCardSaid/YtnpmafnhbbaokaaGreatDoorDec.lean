/-
  frame.Decode.
-/
import Derived.Test.YtnpmafnhbbaokaaGreatDoorEnc
import Derived.Test.YtnpmafnhbbaokaaGreatDoorBs
import Derived.Test.YtnpmafnhbbaokaaGreatDoorGood
import Derived.Deep.RegionHeld3
import Derived.StillTailTactics
namespace Go.Proofs.YtnpmafnhbbaokaaGreatDoor
open Go.RowKit
set_option linter.unusedVariables false
set_option linter.unusedSimpArgs false

def dFl (xs : List Int) : Int := gd xs 2 * 256 + gd xs 3
def dSt (xs : List Int) : Int := gd xs 4 * 16777216 + gd xs 5 * 65536 + gd xs 6 * 256 + gd xs 7
def dLn (xs : List Int) : Int := gd xs 8 * 16777216 + gd xs 9 * 65536 + gd xs 10 * 256 + gd xs 11
/-- Decode's two boxes: the result's (zeros), and h's. -/
structure DecS (x0 x1 : Int) (w W : World) (fl st ln : Int) : Prop where
  box : W.heap[w.heap.size + 1]? = some (.cells #[.int .u8 x0, .int .u8 x1, .int .u16 fl, .int .u32 st, .int .u32 ln] 87 (0, 0))
  res : W.heap[w.heap.size]? = some (.cells #[.int .u8 0, .int .u8 0, .int .u16 0, .int .u32 0, .int .u32 0] 87 (0, 0))
  bel : Below w.heap.size w W
theorem DecS.dr {x0 x1 fl st ln : Int} {w W W' : World} (h : DecS x0 x1 w W fl st ln) (hd : Dr W W') : DecS x0 x1 w W' fl st ln :=
  ⟨(hd.blk _).trans h.box, (hd.blk _).trans h.res, h.bel.trans (hd.below _)⟩
theorem set_other {w : World} {g j k : Nat} (v : Value) (hne : k ≠ g) : (w.setCell ⟨g, j, none⟩ v).heap[k]? = w.heap[k]? := Below.heap_setCell _ _ _ _ hne
theorem DecS.set2 {x0 x1 fl st ln : Int} {w W : World} (h : DecS x0 x1 w W fl st ln) (v : Int) : DecS x0 x1 w (W.setCell ⟨w.heap.size + 1, 2, none⟩ (.int .u16 v)) v st ln :=
  ⟨set_blk _ h.box, (set_other _ (by omega)).trans h.res, h.bel.setCell (by simp) _⟩
theorem DecS.set3 {x0 x1 fl st ln : Int} {w W : World} (h : DecS x0 x1 w W fl st ln) (v : Int) : DecS x0 x1 w (W.setCell ⟨w.heap.size + 1, 3, none⟩ (.int .u32 v)) fl v ln :=
  ⟨set_blk _ h.box, (set_other _ (by omega)).trans h.res, h.bel.setCell (by simp) _⟩
theorem DecS.set4 {x0 x1 fl st ln : Int} {w W : World} (h : DecS x0 x1 w W fl st ln) (v : Int) : DecS x0 x1 w (W.setCell ⟨w.heap.size + 1, 4, none⟩ (.int .u32 v)) fl st v :=
  ⟨set_blk _ h.box, (set_other _ (by omega)).trans h.res, h.bel.setCell (by simp) _⟩
theorem DecS.arg {x0 x1 fl st ln : Int} {w W : World} (h : DecS x0 x1 w W fl st ln) {a : Addr} {v : Value} (hc : w.cell? a = some v) : W.cell? a = some v :=
  (h.bel.cell (World.block_lt_of_cell? w a hc)).trans hc

