/-
  frame.Decode.
-/
import Derived.Test.YtfddhipdedcacaaDoorEnc
import Derived.Test.YtfddhipdedcacaaDoorBs
import Derived.Test.YtfddhipdedcacaaDoorGood
import Derived.Deep.RegionHeld3
import Derived.StillTailTactics
namespace Go.Proofs.YtfddhipdedcacaaDoor
open Go.RowKit
set_option linter.unusedVariables false
set_option linter.unusedSimpArgs false

def dFl (xs : List Int) : Int := gd xs 2 * 256 + gd xs 3
def dSt (xs : List Int) : Int := gd xs 4 * 16777216 + gd xs 5 * 65536 + gd xs 6 * 256 + gd xs 7
def dLn (xs : List Int) : Int := gd xs 8 * 16777216 + gd xs 9 * 65536 + gd xs 10 * 256 + gd xs 11
/-- Decode's two boxes: the result's (zeros), and h's. -/
structure DecS (x0 x1 : Int) (w W : World) (fl st ln : Int) : Prop where
  box : W.heap[w.heap.size + 1]? = some (.cells #[.int .u8 x0, .int .u8 x1, .int .u16 fl, .int .u32 st, .int .u32 ln] 26 (0, 0))
  res : W.heap[w.heap.size]? = some (.cells #[.int .u8 0, .int .u8 0, .int .u16 0, .int .u32 0, .int .u32 0] 26 (0, 0))
  bel : Below w.heap.size w W
theorem DecS.dr {x0 x1 fl st ln : Int} {w W W' : World} (h : DecS x0 x1 w W fl st ln) (hd : Dr W W') : DecS x0 x1 w W' fl st ln :=
  ⟨(hd.blk _).trans h.box, (hd.blk _).trans h.res, h.bel.trans (hd.below _)⟩
theorem set_other {w : World} {g j k : Nat} (v : Value) (hne : k ≠ g) : (w.setCell ⟨g, j, none⟩ v).heap[k]? = w.heap[k]? := Below.heap_setCell _ _ _ _ hne
theorem DecS.set2 {x0 x1 fl st ln : Int} {w W : World} (h : DecS x0 x1 w W fl st ln) (v : Int) : DecS x0 x1 w (W.setCell ⟨w.heap.size + 1, 2, none⟩ (.int .u16 v)) v st ln :=
  ⟨set_blk _ h.box, (set_other _ (by omega)).trans h.res, h.bel.setCell (by simp) _⟩
theorem DecS.set3 {x0 x1 fl st ln : Int} {w W : World} (h : DecS x0 x1 w W fl st ln) (v : Int) : DecS x0 x1 w (W.setCell ⟨w.heap.size + 1, 3, none⟩ (.int .u32 v)) fl v ln :=
  ⟨set_blk _ h.box, (set_other _ (by omega)).trans h.res, h.bel.setCell (by simp) _⟩
theorem DecS.set4 {x0 x1 fl st ln : Int} {w W : World} (h : DecS x0 x1 w W fl st ln) (v : Int) : DecS x0 x1 w (W.setCell ⟨w.heap.size + 1, 4, none⟩ (.int .u32 v)) fl st v :=
  ⟨set_blk _ h.box, (set_other _ (by omega)).trans h.res, h.bel.setCell (by simp) _⟩
theorem DecS.arg {x0 x1 fl st ln : Int} {w W : World} (h : DecS x0 x1 w W fl st ln) {a : Addr} {v : Value} (hc : w.cell? a = some v) : W.cell? a = some v :=
  (h.bel.cell (World.block_lt_of_cell? w a hc)).trans hc

set_option maxRecDepth 100000 in
theorem decode_yes (b o n c : Nat) (xs : List Int) (w : World) (hn : 12 ≤ n) (hnc : n ≤ c) (hm : c ≤ 9223372036854775807) (hc : ∀ j, j < 12 → w.cell? ⟨b, o + j, none⟩ = some (.int .u8 (gd xs j))) (hx : Bytes xs) :
    Calls Tryd.prog 25 #[.slice (some ⟨b, o, none⟩) n c] w fun e w' => e = .returned (.tuple #[hdr (gd xs 0) (gd xs 1) (dFl xs) (dSt xs) (dLn xs), .nilIface]) ∧ Below w.heap.size w w' := by
  have HC := Lib.hid hc
  have HX := Lib.hid hx
  have c0' : w.cell? ⟨b, o, none⟩ = some (.int .u8 (gd xs 0)) := hc 0 (by omega)
  have c0 := fun o' => cell?_alloc_old o' c0'
  have c1 := fun o' => cell?_alloc_old o' (hc 1 (by omega))
  have c2 := fun o1 o2 => cell?_alloc_old o2 (c0 o1)
  have c3 := fun o1 o2 => cell?_alloc_old o2 (c1 o1)
  have q0 : (0 : Int) < (n : Int) := by omega
  have q1 : (1 : Int) < (n : Int) := by omega
  clear c0'
  clear hc hx
  go_enter Tryd.func25, Tryd.ntmps25
  go_wp2_with fail
  go_region
  go_wp2_with fail
  refine (get16_yes b (o + 2) (n - 2) (c - 2) (gd xs 2) (gd xs 3) _ (by omega) (by omega) ?_ ?_ (HX.out 2).1 (HX.out 2).2 (HX.out 3).1 (HX.out 3).2).mono ?_
  · exact cell?_alloc_old _ (cell?_alloc_old _ (HC.out 2 (by omega)))
  · exact cell?_alloc_old _ (cell?_alloc_old _ (HC.out 3 (by omega)))
  rintro e w1 ⟨rfl, hd1⟩
  have h1 : DecS (gd xs 0) (gd xs 1) w w1 0 0 0 := DecS.dr ⟨alloc_at2 _ _ _, (blk_old _ (by simp)).trans (alloc_at _ _), ((Below.refl _ _).alloc (Nat.le_refl _) _).alloc (by simp) _⟩ hd1.undrew
  have e1 : w1.cell? ⟨w.heap.size + 1, 2, none⟩ = some (.int .u16 0) := cell_blk h1.box rfl
  have f1 : w1.frozen? ⟨w.heap.size + 1, 2, none⟩ = false := free_blk h1.box
  have H1 := Lib.hid h1
  clear h1 hd1
  go_wp2_with fail
  clear e1 f1
  have H2 := Lib.hid (H1.out.set2 (gd xs 2 * 256 + gd xs 3))
  refine (get32_yes b (o + 4) (n - 4) (c - 4) (gd xs 4) (gd xs 5) (gd xs 6) (gd xs 7) _ (by omega) (by omega) (H2.out.arg (HC.out 4 (by omega))) (H2.out.arg (HC.out 5 (by omega))) (H2.out.arg (HC.out 6 (by omega))) (H2.out.arg (HC.out 7 (by omega)))
    (HX.out 4).1 (HX.out 4).2 (HX.out 5).1 (HX.out 5).2 (HX.out 6).1 (HX.out 6).2 (HX.out 7).1 (HX.out 7).2).mono ?_
  rintro e w2 ⟨rfl, hd2⟩
  have h3 := H2.out.dr hd2
  have e1 : w2.cell? ⟨w.heap.size + 1, 3, none⟩ = some (.int .u32 0) := cell_blk h3.box rfl
  have f1 : w2.frozen? ⟨w.heap.size + 1, 3, none⟩ = false := free_blk h3.box
  have H3 := Lib.hid h3
  clear h3 hd2
  go_wp2_with fail
  clear e1 f1
  have H4 := Lib.hid (H3.out.set3 (gd xs 4 * 16777216 + gd xs 5 * 65536 + gd xs 6 * 256 + gd xs 7))
  refine (get32_yes b (o + 8) (n - 8) (c - 8) (gd xs 8) (gd xs 9) (gd xs 10) (gd xs 11) _ (by omega) (by omega) (H4.out.arg (HC.out 8 (by omega))) (H4.out.arg (HC.out 9 (by omega))) (H4.out.arg (HC.out 10 (by omega))) (H4.out.arg (HC.out 11 (by omega)))
    (HX.out 8).1 (HX.out 8).2 (HX.out 9).1 (HX.out 9).2 (HX.out 10).1 (HX.out 10).2 (HX.out 11).1 (HX.out 11).2).mono ?_
  rintro e w3 ⟨rfl, hd3⟩
  have h5 := H4.out.dr hd3
  have e0 : w3.cell? ⟨w.heap.size + 1, 0, none⟩ = some (.int .u8 (gd xs 0)) := cell_blk h5.box rfl
  have e1 : w3.cell? ⟨w.heap.size + 1, 1, none⟩ = some (.int .u8 (gd xs 1)) := cell_blk h5.box rfl
  have e2 : w3.cell? ⟨w.heap.size + 1, 2, none⟩ = some (.int .u16 (gd xs 2 * 256 + gd xs 3)) := cell_blk h5.box rfl
  have e3 : w3.cell? ⟨w.heap.size + 1, 3, none⟩ = some (.int .u32 (gd xs 4 * 16777216 + gd xs 5 * 65536 + gd xs 6 * 256 + gd xs 7)) := cell_blk h5.box rfl
  have e4 : w3.cell? ⟨w.heap.size + 1, 4, none⟩ = some (.int .u32 0) := cell_blk h5.box rfl
  have r0 : w3.cell? ⟨w.heap.size, 0, none⟩ = some (.int .u8 0) := cell_blk h5.res rfl
  have r1 : w3.cell? ⟨w.heap.size, 1, none⟩ = some (.int .u8 0) := cell_blk h5.res rfl
  have r2 : w3.cell? ⟨w.heap.size, 2, none⟩ = some (.int .u16 0) := cell_blk h5.res rfl
  have r3 : w3.cell? ⟨w.heap.size, 3, none⟩ = some (.int .u32 0) := cell_blk h5.res rfl
  have r4 : w3.cell? ⟨w.heap.size, 4, none⟩ = some (.int .u32 0) := cell_blk h5.res rfl
  have f1 : ∀ j, w3.frozen? ⟨w.heap.size + 1, j, none⟩ = false := fun j => free_blk h5.box
  have f2 : ∀ j, w3.frozen? ⟨w.heap.size, j, none⟩ = false := fun j => free_blk h5.res
  have H5 := Lib.hid h5
  clear h5 hd3
  go_wp2_with fail
  refine bodyPost_ret (v := .tuple #[hdr (gd xs 0) (gd xs 1) (dFl xs) (dSt xs) (dLn xs), .nilIface]) ?_ rfl ⟨rfl, ?_⟩
  · simp [results, Tryd.results25, go_sem, r0, r1, r2, r3, r4, dFl, dSt, dLn]
  · iterate 6 refine Below.setCell ?_ (by simp) _
    exact H5.out.bel

set_option maxRecDepth 100000 in
theorem decode_no {sa : Nat → Addr} (A : Option Addr) (n c : Nat) (w : World) (hG : Good w sa) (hn : n < 12) :
    Calls Tryd.prog 25 #[.slice A n c] w fun e w' => e = .returned (.tuple #[hdr 0 0 0 0 0, sv (sa 3)]) ∧ Below w.heap.size w w' := by
  have g3 := fun o => cell?_alloc_old o (hG.at_ 3 (by omega) (by omega)).glob
  simp only [sgb] at g3
  clear hG
  go_enter Tryd.func25, Tryd.ntmps25
  go_wp2_with fail
  go_region
  all_goals (try go_wp2_with fail)
  refine bodyPost_ret (v := .tuple #[hdr 0 0 0 0 0, sv (sa 3)]) ?_ rfl ⟨rfl, ((Below.refl _ _).alloc (Nat.le_refl _) _).drew⟩
  simp [results, Tryd.results25, go_sem]
end Go.Proofs.YtfddhipdedcacaaDoor
