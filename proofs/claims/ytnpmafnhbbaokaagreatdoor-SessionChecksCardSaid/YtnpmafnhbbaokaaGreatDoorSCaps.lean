/-
  session.Cap and the reference's.
-/
import Derived.Test.YtnpmafnhbbaokaaGreatDoorSCap
namespace Go.Proofs.YtnpmafnhbbaokaaGreatDoor
open Go Go.RowKit
set_option linter.unusedVariables false
set_option linter.unusedSimpArgs false
abbrev wr (n : Int) : Int := wrap64 n
def capW (c : Cf) : Int := wr (wr (wr (wr (wr (2 * c.str) + c.bkl) * wr (c.stg + c.win)) + c.out) + wr (3 * wr (12 + c.frm)))
def CapTo (c : Cf) (w : World) (e : Ending) (w' : World) : Prop := ((CfOk c ∧ e = .returned (.int .i64 (capW c))) ∨ (¬ CfOk c ∧ e = .returned (.int .i64 0))) ∧ Below w.heap.size w w'
def cfO (c : Cf) : Obj := .cells #[.int .i64 c.win, .int .i64 c.stg, .int .i64 c.frm, .int .i64 c.str, .int .i64 c.bkl, .int .i64 c.pgs, .int .i64 c.out, .int .i64 c.skp] 23
set_option maxRecDepth 100000 in
set_option maxHeartbeats 2000000 in
theorem scap_any {sa : Nat → Addr} {w : World} (hG : Good w sa) (c : Cf) :
    Calls Tryz.prog 10 #[.agg (cfA c)] w (CapTo c w) := by
  obtain ⟨w0, hw0⟩ : ∃ w0, w0 = w.alloc (cfO c) := ⟨_, rfl⟩
  have hb0 : Below w.heap.size w w0 := by rw [hw0]; exact (Below.refl _ _).alloc (Nat.le_refl _) _
  have hq0 : w0.heap[w.heap.size]? = some (.cells (cfA c) 23 (0, 0)) := by rw [hw0]; exact alloc_is _ rfl
  have HC := Lib.hid (scheck_any (hG.below hb0) c)
  have HW := Lib.hid hw0
  have HB := Lib.hid (And.intro hb0 hq0)
  clear hG hb0 hq0 hw0
  unfold cfO at HW
  unfold cfA at HC
  go_enter Tryz.func10, Tryz.ntmps10
  unfold cfA
  go_upto_region 1 with fail
  rw [← HW.out]
  obtain ⟨hb0, hq0⟩ := HB.out
  have c0 : w0.cell? ⟨w.heap.size, 0, none⟩ = some (.int .i64 c.win) := cell_blk hq0 rfl
  have c1 : w0.cell? ⟨w.heap.size, 1, none⟩ = some (.int .i64 c.stg) := cell_blk hq0 rfl
  have c2 : w0.cell? ⟨w.heap.size, 2, none⟩ = some (.int .i64 c.frm) := cell_blk hq0 rfl
  have c3 : w0.cell? ⟨w.heap.size, 3, none⟩ = some (.int .i64 c.str) := cell_blk hq0 rfl
  have c4 : w0.cell? ⟨w.heap.size, 4, none⟩ = some (.int .i64 c.bkl) := cell_blk hq0 rfl
  have c5 : w0.cell? ⟨w.heap.size, 5, none⟩ = some (.int .i64 c.pgs) := cell_blk hq0 rfl
  have c6 : w0.cell? ⟨w.heap.size, 6, none⟩ = some (.int .i64 c.out) := cell_blk hq0 rfl
  have c7 : w0.cell? ⟨w.heap.size, 7, none⟩ = some (.int .i64 c.skp) := cell_blk hq0 rfl
  clear hb0 hq0
  go_wp2_with fail
  refine HC.out.mono ?_
  rintro e w1 ⟨hh, hb1⟩
  have hq1 := keepB hb1 HB.out.2
  have HB1 := Lib.hid (belowT HB.out.1 hb1)
  clear hb1 c0 c1 c2 c3 c4 c5 c6 c7
  have c0 : w1.cell? ⟨w.heap.size, 0, none⟩ = some (.int .i64 c.win) := cell_blk hq1 rfl
  have c1 : w1.cell? ⟨w.heap.size, 1, none⟩ = some (.int .i64 c.stg) := cell_blk hq1 rfl
  have c2 : w1.cell? ⟨w.heap.size, 2, none⟩ = some (.int .i64 c.frm) := cell_blk hq1 rfl
  have c3 : w1.cell? ⟨w.heap.size, 3, none⟩ = some (.int .i64 c.str) := cell_blk hq1 rfl
  have c4 : w1.cell? ⟨w.heap.size, 4, none⟩ = some (.int .i64 c.bkl) := cell_blk hq1 rfl
  have c6 : w1.cell? ⟨w.heap.size, 6, none⟩ = some (.int .i64 c.out) := cell_blk hq1 rfl
  clear hq1
  rcases hh with ⟨h1, rfl⟩ | ⟨h1, rfl⟩
  · have H1 := Lib.hid h1
    clear h1
    go_wp2_with fail
    go_ret
    exact ⟨.inl ⟨H1.out, rfl⟩, HB1.out⟩
  · have H1 := Lib.hid h1
    clear h1
    go_wp2_with fail
    go_ret
    exact ⟨.inr ⟨H1.out, rfl⟩, HB1.out⟩
set_option maxRecDepth 100000 in
set_option maxHeartbeats 2000000 in
theorem rfcap_any {w : World} (c : Cf) :
    Calls Tryz.prog 11 #[.agg (cfA c)] w (CapTo c w) := by
  obtain ⟨w0, hw0⟩ : ∃ w0, w0 = w.alloc (cfO c) := ⟨_, rfl⟩
  have hb0 : Below w.heap.size w w0 := by rw [hw0]; exact (Below.refl _ _).alloc (Nat.le_refl _) _
  have hq0 : w0.heap[w.heap.size]? = some (.cells (cfA c) 23 (0, 0)) := by rw [hw0]; exact alloc_is _ rfl
  have HC := Lib.hid (rcheck_any (w := w0) c)
  have HW := Lib.hid hw0
  have HB := Lib.hid (And.intro hb0 hq0)
  clear hb0 hq0 hw0
  unfold cfO at HW
  unfold cfA at HC
  go_enter Tryz.func11, Tryz.ntmps11
  unfold cfA
  go_upto_region 1 with fail
  rw [← HW.out]
  obtain ⟨hb0, hq0⟩ := HB.out
  have c0 : w0.cell? ⟨w.heap.size, 0, none⟩ = some (.int .i64 c.win) := cell_blk hq0 rfl
  have c1 : w0.cell? ⟨w.heap.size, 1, none⟩ = some (.int .i64 c.stg) := cell_blk hq0 rfl
  have c2 : w0.cell? ⟨w.heap.size, 2, none⟩ = some (.int .i64 c.frm) := cell_blk hq0 rfl
  have c3 : w0.cell? ⟨w.heap.size, 3, none⟩ = some (.int .i64 c.str) := cell_blk hq0 rfl
  have c4 : w0.cell? ⟨w.heap.size, 4, none⟩ = some (.int .i64 c.bkl) := cell_blk hq0 rfl
  have c5 : w0.cell? ⟨w.heap.size, 5, none⟩ = some (.int .i64 c.pgs) := cell_blk hq0 rfl
  have c6 : w0.cell? ⟨w.heap.size, 6, none⟩ = some (.int .i64 c.out) := cell_blk hq0 rfl
  have c7 : w0.cell? ⟨w.heap.size, 7, none⟩ = some (.int .i64 c.skp) := cell_blk hq0 rfl
  clear hb0 hq0
  go_wp2_with fail
  refine HC.out.mono ?_
  rintro e w1 ⟨b, rfl, hh, hb1⟩
  have hq1 := keepB hb1 HB.out.2
  have HB1 := Lib.hid (belowT HB.out.1 hb1)
  have H1 := Lib.hid hh
  clear hb1 c0 c1 c2 c3 c4 c5 c6 c7 hh
  have c0 : w1.cell? ⟨w.heap.size, 0, none⟩ = some (.int .i64 c.win) := cell_blk hq1 rfl
  have c1 : w1.cell? ⟨w.heap.size, 1, none⟩ = some (.int .i64 c.stg) := cell_blk hq1 rfl
  have c2 : w1.cell? ⟨w.heap.size, 2, none⟩ = some (.int .i64 c.frm) := cell_blk hq1 rfl
  have c3 : w1.cell? ⟨w.heap.size, 3, none⟩ = some (.int .i64 c.str) := cell_blk hq1 rfl
  have c4 : w1.cell? ⟨w.heap.size, 4, none⟩ = some (.int .i64 c.bkl) := cell_blk hq1 rfl
  have c6 : w1.cell? ⟨w.heap.size, 6, none⟩ = some (.int .i64 c.out) := cell_blk hq1 rfl
  clear hq1
  cases b
  · go_wp2_with fail
    go_ret
    exact ⟨.inr ⟨fun h => (by have := H1.out.2 h; first | cases this | exact this.elim), rfl⟩, HB1.out⟩
  · go_wp2_with fail
    go_ret
    exact ⟨.inl ⟨H1.out.1 (by first | exact rfl | trivial), rfl⟩, HB1.out⟩
end Go.Proofs.YtnpmafnhbbaokaaGreatDoor
