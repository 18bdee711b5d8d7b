/-
  table.Put of the first stream; lane.Put of its ticket; sched.Ticket.
-/
import Derived.Test.YtnpmafnhbbaokaaGreatDoorSLane
namespace Go.Proofs.YtnpmafnhbbaokaaGreatDoor
open Go Go.RowKit
open Go.ChangeMaps (setBlock)
set_option linter.unusedVariables false
set_option linter.unusedSimpArgs false
set_option maxHeartbeats 1000000 in
theorem tput_1 {w : World} {gt gm s cl : Nat} {m : Int} (hm1 : 1 ≤ m) (ht : w.heap[gt]? = some (.cells #[.int .i64 m, .map (some gm)] 120 (0, 0))) (hm : w.heap[gm]? = some (.map #[] cl)) :
    Calls Tryz.prog 28 #[pt gt, .int .u32 1, pt s] w fun e w' => e = .returned .nilIface ∧ Ch [gm] w w' ∧ w'.heap[gm]? = some (.map #[⟨.int .u32 1, pt s, cl⟩] (cl + 1)) := by
  have c0 : w.cell? ⟨gt, 0, none⟩ = some (.int .i64 m) := cell_blk ht rfl
  have c1 : w.cell? ⟨gt, 1, none⟩ = some (.map (some gm)) := cell_blk ht rfl
  have hl := look_none (W := w) (t := 49) (z := .pointer none) true Tryz.underlying49 hm (by kernel_rfl) (key_one _ _ 1) (find_e _ _ _ ⟨_, Tryz.underlying35⟩)
  have hn : ∀ n ty, _ := fun n ty => len_map (W := w.drewN n) (ty := ty) Tryz.underlying49 hm
  have hs : ∀ n, _ := fun n => store_new (W := w.drewN n) (x := pt s) Tryz.underlying49 hm (key_one _ _ 1) (find_e _ _ _ ⟨_, Tryz.underlying35⟩)
  have HM := Lib.hid hm
  have hd : decide (m ≤ 0) = false := by simp; omega
  clear ht hm
  go_enter Tryz.func28, Tryz.ntmps28
  unfold pt at hs ⊢
  go_wp2_with fail
  go_quiet (fail)
  go_wp2_with fail
  go_ret
  exact ⟨rfl, Ch.block_ ((Ch.refl _ _).drewN _) HM.out (.inl (by simp)) _, ChangeMaps.heap_setBlock_same (w := w.drewN _) HM.out _⟩
theorem belowN {B : Nat} {w w' : World} (h : Below B w w') (n : Nat) : Below B w (w'.drewN n) := ⟨h.os, h.tape, h.output, h.size, h.block⟩
def kp : Value := .agg #[.int .i64 1, .int .u32 1]
/-- The first ticket's cells: it waits, or has gone. -/
def syn1 (gone : Bool) : Array Value := #[.int .i64 1, .int .u32 1, .int .u32 0, .bool gone]
/-- A lane's cells: so many tickets of the kind SYN. -/
def laneC (l : Value) (m : Nat) (n : Int) : Array Value := #[l, .map (some m), .int .i64 0, .int .i64 n, .int .i64 0, .int .i64 0, .int .i64 0, .int .i64 0, .int .i64 0, .int .i64 0, .int .i64 n]
set_option maxRecDepth 100000 in
set_option maxHeartbeats 1000000 in
theorem lput_1 {w : World} {gl m cl : Nat} (hF : Frm w) (hl : w.heap[gl]? = some (.cells (lane0 m) 204 (0, 0))) (hm : w.heap[m]? = some (.map #[] cl)) (hlm : gl ≠ m) :
    Calls Tryz.prog 57 #[pt gl, tk 1 1 0] w fun e w' => e = .returned .nilIface ∧ Ch [gl, m] w w' ∧ ∃ ge r cap cur, w.heap.size ≤ ge ∧ w.heap.size ≤ r ∧ 1 ≤ cap ∧ cap ≤ maxLen ∧ w'.heap[ge]? = some (.cells (syn1 false) 209 (0, 0)) ∧
      w'.heap[r]? = some (.cells cur 199 (0, 0)) ∧ cur[0]? = some (pt ge) ∧ w'.heap[m]? = some (.map #[⟨kp, pt ge, cl⟩] (cl + 1)) ∧ w'.heap[gl]? = some (.cells (laneC (.slice (some ⟨r, 0, none⟩) 1 cap) m 1) 204 (0, 0)) := by
  have c0 : w.cell? ⟨gl, 0, none⟩ = some (.slice none 0 0) := cell_blk hl rfl
  have c1 : w.cell? ⟨gl, 1, none⟩ = some (.map (some m)) := cell_blk hl rfl
  have c3 : w.cell? ⟨gl, 3, none⟩ = some (.int .i64 0) := cell_blk hl rfl
  have c10 : w.cell? ⟨gl, 10, none⟩ = some (.int .i64 0) := cell_blk hl rfl
  have hf : ∀ j, w.frozen? ⟨gl, j, none⟩ = false := fun j => free_blk hl
  have HL := Lib.hid hl
  have HM := Lib.hid hm
  have HF := Lib.hid hF
  have hlt : gl < w.heap.size := blk_lt hl
  have hmt : m < w.heap.size := blk_lt hm
  obtain ⟨w0, hw0⟩ : ∃ w0, w0 = w.alloc (.cells #[.int .i64 1, .int .u32 1, .int .u32 0] 79) := ⟨_, rfl⟩
  have hb0 : Below w.heap.size w w0 := by rw [hw0]; exact (Below.refl _ _).alloc (Nat.le_refl _) _
  have HC := Lib.hid (check_syn (hF.below hb0) 1 (by decide))
  have t0 : w0.heap[w.heap.size]? = some (.cells #[.int .i64 1, .int .u32 1, .int .u32 0] 79 (0, 0)) := by rw [hw0]; exact alloc_is _ rfl
  have HB0 := Lib.hid hb0
  have HT0 := Lib.hid t0
  have HW0 := Lib.hid hw0
  clear hl hm hF hb0 t0 hw0
  go_enter Tryz.func57, Tryz.ntmps57
  unfold pt tk
  go_wp2_with fail
  rw [← HW0.out]
  refine HC.out.mono ?_
  rintro e w1 ⟨rfl, hb1⟩
  have HB1 := Lib.hid (belowT HB0.out hb1)
  have t1 := keepB hb1 HT0.out
  have d0 : w1.cell? ⟨w.heap.size, 0, none⟩ = some (.int .i64 1) := cell_blk t1 rfl
  have d1 : w1.cell? ⟨w.heap.size, 1, none⟩ = some (.int .u32 1) := cell_blk t1 rfl
  have d2 : w1.cell? ⟨w.heap.size, 2, none⟩ = some (.int .u32 0) := cell_blk t1 rfl
  have hl1 := keepB HB1.out HL.out
  have hm1 := keepB HB1.out HM.out
  clear c0 c1 c3 c10 hf
  have c0 : w1.cell? ⟨gl, 0, none⟩ = some (.slice none 0 0) := cell_blk hl1 rfl
  have c1 : w1.cell? ⟨gl, 1, none⟩ = some (.map (some m)) := cell_blk hl1 rfl
  have z1 : w.heap.size < w1.heap.size := blk_lt t1
  have z2 : gl < w1.heap.size := blk_lt hl1
  obtain ⟨f5, f6, f7, f8, f9⟩ := HF.out.below HB1.out
  have z3 : 43 < w1.heap.size := World.block_lt_of_cell? w1 _ f5
  have hk : ∀ W : World, W.heap[m]? = some (.map #[] cl) → _ := fun W h => look_none (W := W) (t := 201) (z := .pointer none) false Tryz.underlying201 h (by kernel_rfl) (key_place _ _ 1 1) (find_e _ _ _ ⟨_, Tryz.underlying198⟩)
  have hk1 : ∀ n, _ := fun n => hk ((w1.alloc (.cells #[.int .i64 1, .int .u32 1] 198)).drewN n) (alloc_old _ hm1)
  have HL1 := Lib.hid hl1
  have HM1 := Lib.hid hm1
  have HT1 := Lib.hid t1
  clear hb1 t1 hl1 hm1 hk
  go_wp2_with fail
  go_quiet (fail)
  go_wp2_with fail
  obtain ⟨w2, hw2⟩ : ∃ w2, w2 = ((w1.alloc (.cells #[.int .i64 1, .int .u32 1] 198)).drewN nq).alloc (.cells #[.int .i64 1, .int .u32 1, .int .u32 0, .bool false] 209) := ⟨_, rfl⟩
  rw [← hw2]
  have hb2 : Below w1.heap.size w1 w2 := by rw [hw2]; exact (belowN ((Below.refl _ _).alloc (Nat.le_refl _) _) _).alloc (by simp [World.drewN]) _
  have e2 : w2.heap[w1.heap.size + 1]? = some (.cells (syn1 false) 209 (0, 0)) := by rw [hw2]; exact alloc_is _ (by simp)
  have p2 : w2.heap[w1.heap.size]? = some (.cells #[.int .i64 1, .int .u32 1] 198 (0, 0)) := by rw [hw2]; exact alloc_old _ (alloc_is (w := w1) _ rfl)
  have hl2 := keepB hb2 HL1.out
  have hm2 := keepB hb2 HM1.out
  have t2 := keepB hb2 HT1.out
  clear d0 d1 d2 c0 c1 f5 f6 f7 f8 f9 hk1
  have d0 : w2.cell? ⟨w.heap.size, 0, none⟩ = some (.int .i64 1) := cell_blk t2 rfl
  have c0 : w2.cell? ⟨gl, 0, none⟩ = some (.slice none 0 0) := cell_blk hl2 rfl
  have c1 : w2.cell? ⟨gl, 1, none⟩ = some (.map (some m)) := cell_blk hl2 rfl
  have p0 : w2.cell? ⟨w1.heap.size, 0, none⟩ = some (.int .i64 1) := cell_blk p2 rfl
  have p1 : w2.cell? ⟨w1.heap.size, 1, none⟩ = some (.int .u32 1) := cell_blk p2 rfl
  have hs : ∀ n, _ := fun n => store_new (W := w2.drewN n) (x := pt (w1.heap.size + 1)) Tryz.underlying201 hm2 (key_place _ _ 1 1) (find_e _ _ _ ⟨_, Tryz.underlying198⟩)
  have hs1 := store_new (W := w2.drew) (x := pt (w1.heap.size + 1)) Tryz.underlying201 hm2 (key_place _ _ 1 1) (find_e _ _ _ ⟨_, Tryz.underlying198⟩)
  have K2 := Lib.hid (And.intro hb2 (And.intro e2 (And.intro hl2 (And.intro hm2 t2))))
  clear hb2 e2 p2 hl2 hm2 t2 hw2
  unfold pt at hs hs1
  go_region
  obtain ⟨w3, hw3⟩ : ∃ w3, w3 = setBlock w2.drew m (.map #[⟨.agg #[.int .i64 1, .int .u32 1], .pointer (some ⟨w1.heap.size + 1, 0, none⟩), cl⟩] (cl + 1)) := ⟨_, rfl⟩
  rw [← hw3]
  obtain ⟨hb2, e2, hl2, hm2, t2⟩ := K2.out
  have hc3 : Ch [m] w2 w3 := by rw [hw3]; exact Ch.block_ (Ch.refl _ _).drew hm2 (.inl (by simp)) _
  have hm3 : w3.heap[m]? = some (.map #[⟨kp, pt (w1.heap.size + 1), cl⟩] (cl + 1)) := by rw [hw3]; exact ChangeMaps.heap_setBlock_same (w := w2.drew) hm2 _
  have hl3 := hc3.at_ hl2 (by simp; omega)
  have e3 := hc3.at_ e2 (by simp; omega)
  have t3 := hc3.at_ t2 (by simp; omega)
  clear d0 c0 c1 p0 p1 hs hs1 hb2 e2 hl2 hm2 t2 hw3
  have d0 : w3.cell? ⟨w.heap.size, 0, none⟩ = some (.int .i64 1) := cell_blk t3 rfl
  have c0 : w3.cell? ⟨gl, 0, none⟩ = some (.slice none 0 0) := cell_blk hl3 rfl
  have hf : ∀ j, w3.frozen? ⟨gl, j, none⟩ = false := fun j => free_blk hl3
  have K3 := Lib.hid (And.intro hc3 (And.intro hm3 (And.intro hl3 (And.intro e3 t3))))
  clear hc3 hm3 hl3 e3 t3
  have z4 : gl < w3.heap.size := World.block_lt_of_cell? w3 _ c0
  go_wp2_with (at_builtin; go_loud (refine app_nil rfl _ _ 200 199 (.pointer none) 8 rfl Tryz.underlying200 ent_info rfl (by decide) (.pointer (some ⟨w1.heap.size + 1, 0, none⟩)) rfl rfl rfl ?_; intro r cap cur w4 hr4 hq4 hx4 hc4 hm4 hs4 hch4; have hl4 := hch4.at_ K3.out.2.2.1 (by simp); have t4 := hch4.at_ K3.out.2.2.2.2 (by simp); have c0' : w4.cell? ⟨gl, 0, none⟩ = some (.slice none 0 0) := cell_blk hl4 rfl; have hf' : ∀ j, w4.frozen? ⟨gl, j, none⟩ = false := fun j => free_blk hl4; have K4 := Lib.hid (And.intro hr4 (And.intro hq4 (And.intro hx4 (And.intro hc4 (And.intro hm4 (And.intro hch4 (And.intro hl4 t4))))))); clear hr4 hq4 hx4 hc4 hm4 hs4 hch4 hl4 t4 c0 hf d0 z4))
  obtain ⟨w5, hw5⟩ : ∃ w5, w5 = w4.setCell ⟨gl, 0, none⟩ (.slice (some ⟨r, 0, none⟩) 1 cap) := ⟨_, rfl⟩
  rw [← hw5]
  obtain ⟨hr4, hq4, hx4, hc4, hm4, hch4, hl4, t4⟩ := K4.out
  have hl5 : w5.heap[gl]? = some (.cells (laneC (.slice (some ⟨r, 0, none⟩) 1 cap) m 0) 204 (0, 0)) := by rw [hw5]; exact set_is hl4 rfl
  have hc5 : Ch [gl] w4 w5 := by rw [hw5]; exact (Ch.refl _ _).set (.inl (by simp)) _
  have t5 := hc5.at_ t4 (by simp; omega)
  have hlw : gl < w3.heap.size := blk_lt K3.out.2.2.1
  have q5 := hc5.at_ hq4 (by simp; omega)
  clear hr4 hq4 hx4 hc4 hm4 hch4 hl4 t4 c0' hf' hw5
  have d0 : w5.cell? ⟨w.heap.size, 0, none⟩ = some (.int .i64 1) := cell_blk t5 rfl
  have c3 : w5.cell? ⟨gl, 3, none⟩ = some (.int .i64 0) := cell_blk hl5 rfl
  have c10 : w5.cell? ⟨gl, 10, none⟩ = some (.int .i64 0) := cell_blk hl5 rfl
  have hf : ∀ j, w5.frozen? ⟨gl, j, none⟩ = false := fun j => free_blk hl5
  have K5 := Lib.hid (And.intro hc5 (And.intro hl5 q5))
  clear hc5 hl5 t5 q5
  go_region
  go_wp2_with fail
  go_ret
  obtain ⟨hb2, e2, hl2, hm2, t2⟩ := K2.out
  obtain ⟨hc3, hm3, hl3, e3, t3⟩ := K3.out
  obtain ⟨hr4, hq4, hx4, hc4, hm4, hch4, hl4, t4⟩ := K4.out
  obtain ⟨hc5, hl5, q5⟩ := K5.out
  have s1 := HB1.out.size
  have s2 := hb2.size
  have s3 := hc3.size
  have s4 := hch4.size
  have hc6 : Ch [gl] w5 (((w5.setCell ⟨gl, 3, none⟩ (.int .i64 1)).setCell ⟨gl, 10, none⟩ (.int .i64 1)).drew) := (((Ch.refl _ _).set (.inl (by simp)) _).set (.inl (by simp)) _).drew
  have hl6 : (((w5.setCell ⟨gl, 3, none⟩ (.int .i64 1)).setCell ⟨gl, 10, none⟩ (.int .i64 1)).drew).heap[gl]? = some (.cells (laneC (.slice (some ⟨r, 0, none⟩) 1 cap) m 1) 204 (0, 0)) := drew_blk (set_is (set_blk _ hl5) rfl)
  refine ⟨rfl, ?_, w1.heap.size + 1, r, cap, cur, by omega, by omega, hc4, hm4, ?_, ?_, hx4, ?_, hl6⟩
  · have a1 : Ch [gl, m] w w2 := Ch.of_below (HB1.out.trans (hb2.mono (by omega)))
    have a2 := a1.trans hc3 (by simp)
    have a3 := a2.trans hch4 (by simp)
    have a4 := a3.trans hc5 (by simp)
    exact a4.trans hc6 (by simp)
  · exact hc6.at_ (hc5.at_ (hch4.at_ e3 (by simp)) (by simp; omega)) (by simp; omega)
  · exact hc6.at_ q5 (by simp; omega)
  · exact hc6.at_ (hc5.at_ (hch4.at_ hm3 (by simp)) (by simp; omega)) (by simp; omega)
theorem ticket_1 {w : World} {gs gl gr m cl : Nat} (hF : Frm w) (hs : w.heap[gs]? = some (.cells #[pt gl, pt gr] 142 (0, 0))) (hl : w.heap[gl]? = some (.cells (lane0 m) 204 (0, 0))) (hm : w.heap[m]? = some (.map #[] cl)) (hlm : gl ≠ m) :
    Calls Tryz.prog 29 #[pt gs, tk 1 1 0] w fun e w' => e = .returned .nilIface ∧ Ch [gl, m] w w' ∧ ∃ ge r cap cur, w.heap.size ≤ ge ∧ w.heap.size ≤ r ∧ 1 ≤ cap ∧ cap ≤ maxLen ∧ w'.heap[ge]? = some (.cells (syn1 false) 209 (0, 0)) ∧
      w'.heap[r]? = some (.cells cur 199 (0, 0)) ∧ cur[0]? = some (pt ge) ∧ w'.heap[m]? = some (.map #[⟨kp, pt ge, cl⟩] (cl + 1)) ∧ w'.heap[gl]? = some (.cells (laneC (.slice (some ⟨r, 0, none⟩) 1 cap) m 1) 204 (0, 0)) := by
  have c0 : w.cell? ⟨gs, 0, none⟩ = some (pt gl) := cell_blk hs rfl
  have hlt : gs < w.heap.size := blk_lt hs
  have z1 : gs < w.heap.size + 1 := by omega
  have hb : ∀ n, Below w.heap.size w ((w.alloc (.cells #[.int .i64 1, .int .u32 1, .int .u32 0] 79)).drewN n) := fun n => belowN ((Below.refl _ _).alloc (Nat.le_refl _) _) n
  have hb' : Below w.heap.size w ((w.alloc (.cells #[.int .i64 1, .int .u32 1, .int .u32 0] 79)).drew) := ((Below.refl _ _).alloc (Nat.le_refl _) _).drew
  have HP := Lib.hid (lput_1 (hF.below hb') (keepB hb' hl) (keepB hb' hm) hlm)
  have HB := Lib.hid hb'
  clear hs hl hm hF hb hb'
  go_enter Tryz.func29, Tryz.ntmps29
  unfold pt at c0
  unfold pt tk
  go_wp2_with fail
  go_region_with (go_at_call 57; refine HP.out.mono ?_; rintro e w1 ⟨rfl, hq⟩; have HQ := Lib.hid hq; clear hq)
  all_goals
    go_wp2_with fail
    go_ret
    obtain ⟨hc, ge, r, cap, cur, g1, g2, rest⟩ := HQ.out
    exact ⟨rfl, (Ch.of_below HB.out).trans hc (fun j hj => .inl hj), ge, r, cap, cur, Nat.le_trans HB.out.size g1, Nat.le_trans HB.out.size g2, rest⟩
end Go.Proofs.YtnpmafnhbbaokaaGreatDoor
