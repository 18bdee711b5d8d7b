/-
  lane.Next, lane.Frame of the first ticket; ids.Mine, Sent.
-/
import Derived.Test.YtnpmafnhbbaokaaGreatDoorSLn
namespace Go.Proofs.YtnpmafnhbbaokaaGreatDoor
open Go Go.RowKit
open Go.ChangeMaps (setBlock)
set_option linter.unusedVariables false
set_option linter.unusedSimpArgs false
set_option maxRecDepth 100000 in
set_option maxHeartbeats 2000000 in
theorem lnext_1 {w : World} {gl ge m cl r cap : Nat} {cur : Array Value} (hl : w.heap[gl]? = some (.cells (laneC (.slice (some ⟨r, 0, none⟩) 1 cap) m 1) 204 (0, 0))) (he : w.heap[ge]? = some (.cells (syn1 false) 209 (0, 0))) (hm : w.heap[m]? = some (.map #[⟨kp, pt ge, 0⟩] cl))
    (hr : w.heap[r]? = some (.cells cur 199 (0, 0))) (hx : cur[0]? = some (pt ge)) (hc1 : 1 ≤ cap) (hc2 : cap ≤ maxLen) :
    Calls Tryz.prog 66 #[pt gl] w fun e w' => e = .returned (.tuple #[tk 1 1 0, .bool true]) ∧ Ch [gl, ge, m] w w' ∧ ∃ A c, w'.heap[gl]? = some (.cells (laneC (.slice A 0 c) m 0) 204 (0, 0)) ∧ w'.heap[m]? = some (.map #[] cl) := by
  unfold maxLen at hc2
  have ne1 : gl ≠ ge := type_ne hl he (by decide)
  have ne2 : gl ≠ m := map_ne hl hm
  have ne3 : gl ≠ r := type_ne hl hr (by decide)
  have c0 : w.cell? ⟨gl, 0, none⟩ = some (.slice (some ⟨r, 0, none⟩) 1 cap) := cell_blk hl rfl
  have cf : ∀ j, w.frozen? ⟨gl, j, none⟩ = false := fun j => free_blk hl
  have r0 : w.cell? ⟨r, 0, none⟩ = some (pt ge) := cell_blk hr hx
  have e3 : w.cell? ⟨ge, 3, none⟩ = some (.bool false) := cell_blk he rfl
  have zl : gl < w.heap.size := blk_lt hl
  have ze : ge < w.heap.size := blk_lt he
  have zr : r < w.heap.size := blk_lt hr
  have ne1' : ge ≠ gl := Ne.symm ne1
  have ne3' : r ≠ gl := Ne.symm ne3
  have HL := Lib.hid hl
  have HE := Lib.hid he
  have HM := Lib.hid hm
  clear hl he hm hr hx
  unfold pt at r0
  have hcc : cap = 1 ∨ 1 < cap := by omega
  rcases hcc with rfl | hcc
  all_goals
    go_enter Tryz.func66, Tryz.ntmps66
    unfold pt
    go_wp2_with fail
    refine wp_loop_rounds 1 ?_
    rw [rounds_succ]
    go_wp2_with fail
    refine Calls.mono (drop_1 (alloc_old _ (set_is HL.out rfl)) (alloc_old _ (setO _ HE.out ne1')) (alloc_old _ (setO _ HM.out (Ne.symm ne2)))) ?_
    rintro e w2 ⟨rfl, hc2, hl2, he2, hm2⟩
    have t2 := hc2.at_ (alloc_is _ (by simp : (w.setCell _ _).heap.size = w.heap.size)) (by have := blk_lt HM.out; simp; omega)
    clear c0 cf r0 e3
    have e0 : w2.cell? ⟨ge, 0, none⟩ = some (.int .i64 1) := cell_blk he2 rfl
    have e1 : w2.cell? ⟨ge, 1, none⟩ = some (.int .u32 1) := cell_blk he2 rfl
    have e2 : w2.cell? ⟨ge, 2, none⟩ = some (.int .u32 0) := cell_blk he2 rfl
    have q0 : w2.cell? ⟨w.heap.size, 0, none⟩ = some (.int .i64 0) := cell_blk t2 rfl
    have q1 : w2.cell? ⟨w.heap.size, 1, none⟩ = some (.int .u32 0) := cell_blk t2 rfl
    have q2 : w2.cell? ⟨w.heap.size, 2, none⟩ = some (.int .u32 0) := cell_blk t2 rfl
    have qf : ∀ j, w2.frozen? ⟨w.heap.size, j, none⟩ = false := fun j => free_blk t2
    have K := Lib.hid (And.intro hc2 (And.intro hl2 (And.intro hm2 t2)))
    clear hc2 hl2 he2 hm2 t2
    go_wp2_with fail
    refine bodyPost_ret (v := .tuple #[.agg #[.int .i64 1, .int .u32 1, .int .u32 0], .bool true]) ?_ rfl ?_
    · simp [results, Tryz.results66, go_sem, q0, q1, q2]
    obtain ⟨hc2, hl2, hm2, t2⟩ := K.out
    refine ⟨rfl, ?_, _, _, setO _ (setO _ (setO _ hl2 (by omega)) (by omega)) (by omega), setO _ (setO _ (setO _ hm2 (by have := blk_lt HM.out; omega)) (by have := blk_lt HM.out; omega)) (by have := blk_lt HM.out; omega)⟩
    have h1 : Ch [gl, ge, m] w _ := (((Ch.refl [gl, ge, m] w).set (.inl (by simp)) _).alloc _).trans hc2 (by simp)
    exact ((h1.set (.inr (Nat.le_refl _)) _).set (.inr (Nat.le_refl _)) _).set (.inr (Nat.le_refl _)) _
theorem mine_1 {w : World} {gi : Nat} {b f nx mk th : Value} (hi : w.heap[gi]? = some (.cells #[.int .u64 1, b, f, nx, mk, th] 109 (0, 0))) :
    Calls Tryz.prog 72 #[pt gi, .int .u32 1] w fun e w' => e = .returned (.bool true) ∧ w' = w := by
  have c0 : w.cell? ⟨gi, 0, none⟩ = some (.int .u64 1) := cell_blk hi rfl
  clear hi
  go_enter Tryz.func72, Tryz.ntmps72
  unfold pt
  go_wp2_with fail
  go_ret
  exact ⟨rfl, rfl⟩
theorem sent_1 {w : World} {gi : Nat} {b th : Value} (hi : w.heap[gi]? = some (.cells #[.int .u64 1, b, .int .u64 1, .int .u64 3, .int .u32 0, th] 109 (0, 0))) :
    Calls Tryz.prog 38 #[pt gi, .int .u32 1] w fun e w' => e = .returned .nilIface ∧ w' = w.setCell ⟨gi, 4, none⟩ (.int .u32 1) := by
  have c2 : w.cell? ⟨gi, 2, none⟩ = some (.int .u64 1) := cell_blk hi rfl
  have c3 : w.cell? ⟨gi, 3, none⟩ = some (.int .u64 3) := cell_blk hi rfl
  have c4 : w.cell? ⟨gi, 4, none⟩ = some (.int .u32 0) := cell_blk hi rfl
  have cf : ∀ j, w.frozen? ⟨gi, j, none⟩ = false := fun j => free_blk hi
  have HM := Lib.hid (mine_1 hi)
  clear hi
  go_enter Tryz.func38, Tryz.ntmps38
  unfold pt
  go_wp2_with fail
  refine HM.out.mono ?_
  rintro e w ⟨rfl, rfl⟩
  go_wp2_with fail
  go_ret
  exact ⟨rfl, rfl⟩
def hdA (ty fl st ln : Int) (d : Value) : Value := .agg #[.int .u8 0, .int .u8 ty, .int .u16 fl, .int .u32 st, .int .u32 ln, d]
set_option maxHeartbeats 1000000 in
theorem lframe_1 {w : World} (hF : Frm w) : Calls Tryz.prog 67 #[tk 1 1 0] w fun e w' => e = .returned (.tuple #[hdA 1 1 1 0 (.slice none 0 0), .nilIface]) ∧ Below w.heap.size w w' := by
  obtain ⟨w0, hw0⟩ : ∃ w0, w0 = (w.alloc (.cells #[.int .i64 1, .int .u32 1, .int .u32 0] 79)).alloc (.cells #[.int .u8 0, .int .u8 0, .int .u16 0, .int .u32 0, .int .u32 0, .slice none 0 0] 89) := ⟨_, rfl⟩
  have hb0 : Below w.heap.size w w0 := by rw [hw0]; exact ((Below.refl _ _).alloc (Nat.le_refl _) _).alloc (by simp) _
  have t0 : w0.heap[w.heap.size]? = some (.cells #[.int .i64 1, .int .u32 1, .int .u32 0] 79 (0, 0)) := by rw [hw0]; exact alloc_old _ (alloc_is _ rfl)
  have f0 : w0.heap[w.heap.size + 1]? = some (.cells #[.int .u8 0, .int .u8 0, .int .u16 0, .int .u32 0, .int .u32 0, .slice none 0 0] 89 (0, 0)) := by rw [hw0]; exact alloc_is _ (by simp)
  have HC := Lib.hid (check_syn (hF.below hb0) 1 (by decide))
  have HB0 := Lib.hid hb0
  have HT := Lib.hid t0
  have HR := Lib.hid f0
  have HW := Lib.hid hw0
  have HF := Lib.hid hF
  clear hF hb0 t0 f0 hw0
  unfold tk at HC
  unfold tk
  go_enter Tryz.func67, Tryz.ntmps67
  go_wp2_with fail
  rw [← HW.out]
  refine HC.out.mono ?_
  rintro e w1 ⟨rfl, hb1⟩
  have t1 := keepB hb1 HT.out
  have f1 := keepB hb1 HR.out
  have HB1 := Lib.hid (belowT HB0.out hb1)
  have q0 : w1.cell? ⟨w.heap.size, 0, none⟩ = some (.int .i64 1) := cell_blk t1 rfl
  have q1 : w1.cell? ⟨w.heap.size, 1, none⟩ = some (.int .u32 1) := cell_blk t1 rfl
  have q2 : w1.cell? ⟨w.heap.size, 2, none⟩ = some (.int .u32 0) := cell_blk t1 rfl
  have r0 : w1.cell? ⟨w.heap.size + 1, 0, none⟩ = some (.int .u8 0) := cell_blk f1 rfl
  have r1 : w1.cell? ⟨w.heap.size + 1, 1, none⟩ = some (.int .u8 0) := cell_blk f1 rfl
  have r2 : w1.cell? ⟨w.heap.size + 1, 2, none⟩ = some (.int .u16 0) := cell_blk f1 rfl
  have r3 : w1.cell? ⟨w.heap.size + 1, 3, none⟩ = some (.int .u32 0) := cell_blk f1 rfl
  have r4 : w1.cell? ⟨w.heap.size + 1, 4, none⟩ = some (.int .u32 0) := cell_blk f1 rfl
  have r5 : w1.cell? ⟨w.heap.size + 1, 5, none⟩ = some (.slice none 0 0) := cell_blk f1 rfl
  have rf : ∀ j, w1.frozen? ⟨w.heap.size + 1, j, none⟩ = false := fun j => free_blk f1
  obtain ⟨g5, g6, g7, g8, g9⟩ := HF.out.below HB1.out
  have z1 : w.heap.size < w1.heap.size := blk_lt t1
  have z2 : w.heap.size + 1 < w1.heap.size := blk_lt f1
  have z3 : 43 < w1.heap.size := World.block_lt_of_cell? w1 _ g5
  clear hb1 t1 f1
  go_upto_region 5 with fail
  obtain ⟨w2, hw2⟩ : ∃ w2, w2 = w1.alloc (.cells #[.int .i64 1, .int .i64 0, .bool true, .int .u8 1, .int .u16 1] 206) := ⟨_, rfl⟩
  rw [← hw2]
  have hb2 : Below w1.heap.size w1 w2 := by rw [hw2]; exact (Below.refl _ _).alloc (Nat.le_refl _) _
  have f2 : w2.heap[w1.heap.size]? = some (.cells #[.int .i64 1, .int .i64 0, .bool true, .int .u8 1, .int .u16 1] 206 (0, 0)) := by rw [hw2]; exact alloc_is _ rfl
  have b3 : w2.cell? ⟨w1.heap.size, 3, none⟩ = some (.int .u8 1) := cell_blk f2 rfl
  have b4 : w2.cell? ⟨w1.heap.size, 4, none⟩ = some (.int .u16 1) := cell_blk f2 rfl
  have q1' : w2.cell? ⟨w.heap.size, 1, none⟩ = some (.int .u32 1) := keepA hb2 q1
  have q2' : w2.cell? ⟨w.heap.size, 2, none⟩ = some (.int .u32 0) := keepA hb2 q2
  have r0' := keepA hb2 r0
  have r1' := keepA hb2 r1
  have r2' := keepA hb2 r2
  have r3' := keepA hb2 r3
  have r4' := keepA hb2 r4
  have r5' := keepA hb2 r5
  have rf' : ∀ j, w2.frozen? ⟨w.heap.size + 1, j, none⟩ = false := fun j => (hb2.frozen (p := ⟨w.heap.size + 1, j, none⟩) z2).trans (rf j)
  have HB2 := Lib.hid (belowT HB1.out hb2)
  have HZ : Hid (w.heap.size ≤ w.heap.size + 1) := Lib.hid (by omega)
  clear q0 q1 q2 r0 r1 r2 r3 r4 r5 rf g5 g6 g7 g8 g9 z1 z2 z3 hw2 hb2 f2 HW HR HT
  obtain ⟨fb, hfb⟩ : ∃ fb, fb = w.heap.size + 1 := ⟨_, rfl⟩
  rw [← hfb] at HZ r0' r1' r2' r3' r4' r5' rf' ⊢
  clear hfb
  generalize htb : w.heap.size = tb at *
  have HTB := Lib.hid htb
  clear htb
  generalize w1.heap.size = ab at *
  go_wp2_with fail
  refine bodyPost_ret (v := .tuple #[.agg #[.int .u8 0, .int .u8 1, .int .u16 1, .int .u32 1, .int .u32 0, .slice none 0 0], .nilIface]) ?_ rfl ⟨rfl, ?_⟩
  · simp [results, Tryz.results67, go_sem, r0', r1', r2', r3', r4', r5']
  · rw [HTB.out]
    have hz := HZ.out
    exact (((((HB2.out.setCell hz _).setCell hz _).setCell hz _).setCell hz _).setCell hz _).setCell hz _
end Go.Proofs.YtnpmafnhbbaokaaGreatDoor
