/-
  session.data: the first stream's frame, and whether more follows.
-/
import Derived.Test.YtnpmafnhbbaokaaGreatDoorSFrame
namespace Go.Proofs.YtnpmafnhbbaokaaGreatDoor
open Go Go.RowKit
open Go.ChangeMaps (setBlock)
set_option linter.unusedVariables false
set_option linter.unusedSimpArgs false
theorem quiet_1 {w : World} {c : Cf} {s : Nat} (hs : w.heap[s]? = some (.cells (st1 c s) 126 (0, 0))) :
    Calls Tryz.prog 100 #[pt s] w fun e w' => e = .returned (.bool false) ∧ w' = w := by
  have c7 : w.cell? ⟨s, 7, none⟩ = some (.bool false) := cell_blk hs rfl
  have c13 : w.cell? ⟨s, 13, none⟩ = some (.bool false) := cell_blk hs rfl
  clear hs
  go_enter Tryz.func100, Tryz.ntmps100
  unfold pt
  go_wp2_with fail
  go_ret
  exact ⟨rfl, rfl⟩
theorem done_1 {w : World} {c : Cf} {s : Nat} (hs : w.heap[s]? = some (.cells (st1 c s) 126 (0, 0))) :
    Calls Tryz.prog 71 #[pt s] w fun e w' => e = .returned (.bool false) ∧ w' = w := by
  have c13 : w.cell? ⟨s, 13, none⟩ = some (.bool false) := cell_blk hs rfl
  have c14 : w.cell? ⟨s, 14, none⟩ = some (.bool false) := cell_blk hs rfl
  have HQ := Lib.hid (quiet_1 hs)
  clear hs
  go_enter Tryz.func71, Tryz.ntmps71
  unfold pt
  go_wp2_with fail
  refine HQ.out.mono ?_
  rintro e w ⟨rfl, rfl⟩
  go_wp2_with fail
  go_ret
  exact ⟨rfl, rfl⟩
set_option maxRecDepth 100000 in
set_option maxHeartbeats 2000000 in
theorem data_1 {w : World} {c : Cf} {n s b h m j : Nat} {mk og : Int} {lane robin ouf : Array Value} {lnm rbm : Obj} {hv sp : Int} {x : Addr} (hp : PopH h m j hv) (hfr : c.frm = 3) (hx : w.cell? ⟨3, 0, none⟩ = some (sv x)) (hgx : 3 < n) (hg : SG w n s c mk lane lnm robin rbm og ouf hv sp (rgC b h m)) (hb : w.heap[b]? = some (.cells ab8 5 (0, 0))) (s0 : 0 ≤ sp) (s1 : sp ≤ 1000000) :
    Calls Tryz.prog 37 #[pt (n + 2), .int .u32 1] w fun e w' => ∃ g, e = .returned (.tuple #[hdA 0 0 1 j (.slice (some ⟨g, 0, none⟩) j j), .bool true, .bool (decide (0 < hv - j))]) ∧ w.heap.size ≤ g ∧ Ch [s + 1, s - 2] w w' ∧ w'.heap[g]? = some (.cells (dv h j) 5 (0, 0)) ∧ w'.heap[s + 1]? = some (.cells (rgC b (h + j) (m - j)) 188 (0, 0)) ∧ w'.heap[s - 2]? = some (.cells #[.int .u32 c.win, .int .u32 (hv - j), .int .u64 (sp + j)] 190 (0, 0)) := by
  obtain ⟨w0, hw0⟩ : ∃ w0, w0 = w.alloc (.cells fr0 89) := ⟨_, rfl⟩
  have hc0 : Ch [] w w0 := by rw [hw0]; exact (Ch.refl _ _).alloc _
  have hr0 : w0.heap[w.heap.size]? = some (.cells fr0 89 (0, 0)) := by rw [hw0]; exact alloc_is _ rfl
  have h0 := hg.step hc0
  have hs0 := hg.s0
  have hz0 : n + 15 < w.heap.size := blk_lt hg.rst
  have hzq : s + 1 < w.heap.size := blk_lt hg.stg
  have hzd : s - 2 < w.heap.size := blk_lt hg.snd
  have c2 : w0.cell? ⟨n + 2, 9, none⟩ = some (.pointer (some ⟨n + 6, 0, none⟩)) := cell_blk h0.box rfl
  have HT := Lib.hid (tget_1 h0.tab h0.tmp)
  have HF := Lib.hid (sframe_1 hp hfr (hc0.cell_ hx (by simp)) (by omega) (by omega) h0.str h0.stg (hc0.at_ hb (by simp)) h0.snd s0 s1)
  have hm1 : (1 : Int) ≤ (m - j : Nat) := by rcases hp with ⟨rfl, rfl, rfl, rfl⟩ | ⟨rfl, rfl, rfl, rfl⟩ <;> decide
  have HW := Lib.hid hw0
  have H0 := Lib.hid (And.intro h0 (And.intro hc0 hr0))
  clear hg hb hx hc0 hr0 h0 hw0 hp
  unfold fr0 at HW
  unfold pt at HT HF
  go_enter Tryz.func37, Tryz.ntmps37
  unfold pt
  go_upto_region 1 with fail
  rw [← HW.out]
  go_wp2_with fail
  refine HT.out.mono ?_
  rintro e w0 ⟨rfl, rfl⟩
  go_wp2_with fail
  try unfold pt
  refine HF.out.mono ?_
  rintro e w1 ⟨g, rfl, hg1, hc1, hd1, hq1, hv1⟩
  obtain ⟨h0, hc0, hr0⟩ := H0.out
  have hst1 := hc1.at_ h0.str (by simp; omega)
  have hr1 := hc1.at_ hr0 (by simp; omega)
  have HDN := Lib.hid (fun W (hW : Ch [] w1 W) => done_1 (w := W) (hW.at_ hst1 (by simp)))
  have K1 := Lib.hid (And.intro hg1 (And.intro hc1 (And.intro hd1 (And.intro hq1 (And.intro hv1 (And.intro hst1 hr1))))))
  have hz1 := blk_lt hr1
  clear hg1 hc1 hd1 hq1 hv1 hst1 hr1 h0 hc0 hr0 HF HT c2
  unfold hdA
  go_upto_region 5 with fail
  obtain ⟨w2, hw2⟩ : ∃ w2, w2 = w1.alloc (.cells #[.int .u8 0, .int .u8 0, .int .u16 0, .int .u32 1, .int .u32 j, .slice (some ⟨g, 0, none⟩) j j] 89) := ⟨_, rfl⟩
  rw [← hw2]
  obtain ⟨hg1, hc1, hd1, hq1, hv1, hst1, hr1⟩ := K1.out
  have hc2 : Ch [] w1 w2 := by rw [hw2]; exact (Ch.refl _ _).alloc _
  have hr2 := hc2.at_ hr1 (by simp)
  have hst2 := hc2.at_ hst1 (by simp)
  obtain ⟨fb, hfb⟩ : ∃ fb, fb = w.heap.size := ⟨_, rfl⟩
  obtain ⟨tb, htb⟩ : ∃ tb, tb = w1.heap.size := ⟨_, rfl⟩
  have g2 : w2.heap[tb]? = some (.cells (fr6 0 0 1 j (.slice (some ⟨g, 0, none⟩) j j)) 89 (0, 0)) := by rw [hw2]; exact alloc_is _ htb.symm
  rw [← htb]
  rw [← hfb] at hr2 hz1 ⊢
  have hne : fb ≠ tb := by omega
  have a0 : w2.cell? ⟨fb, 0, none⟩ = some (.int .u8 0) := cell_blk hr2 rfl
  have a1 : w2.cell? ⟨fb, 1, none⟩ = some (.int .u8 0) := cell_blk hr2 rfl
  have a2 : w2.cell? ⟨fb, 2, none⟩ = some (.int .u16 0) := cell_blk hr2 rfl
  have a3 : w2.cell? ⟨fb, 3, none⟩ = some (.int .u32 0) := cell_blk hr2 rfl
  have a4 : w2.cell? ⟨fb, 4, none⟩ = some (.int .u32 0) := cell_blk hr2 rfl
  have a5 : w2.cell? ⟨fb, 5, none⟩ = some (.slice none 0 0) := cell_blk hr2 rfl
  have af : ∀ j, w2.frozen? ⟨fb, j, none⟩ = false := fun j => free_blk hr2
  have b0 : w2.cell? ⟨tb, 0, none⟩ = some (.int .u8 0) := cell_blk g2 rfl
  have b1 : w2.cell? ⟨tb, 1, none⟩ = some (.int .u8 0) := cell_blk g2 rfl
  have b2 : w2.cell? ⟨tb, 2, none⟩ = some (.int .u16 0) := cell_blk g2 rfl
  have b3 : w2.cell? ⟨tb, 3, none⟩ = some (.int .u32 1) := cell_blk g2 rfl
  have b4 : w2.cell? ⟨tb, 4, none⟩ = some (.int .u32 j) := cell_blk g2 rfl
  have b5 : w2.cell? ⟨tb, 5, none⟩ = some (.slice (some ⟨g, 0, none⟩) j j) := cell_blk g2 rfl
  have HD := Lib.hid (HDN.out w2 hc2)
  have HRD := Lib.hid (ready_any (w := w2.drew) hst2 (hc2.at_ hq1 (by simp)) (hc2.at_ hv1 (by simp)) hm1)
  have K2 := Lib.hid (And.intro hne (And.intro hfb (And.intro hc2 hr2)))
  clear hg1 hc1 hd1 hq1 hv1 hst1 hr1 hc2 hr2 hst2 hw2 g2 hne hfb htb
  have hne' := K2.out.1
  unfold pt at HD HRD
  go_wp2_with fail
  refine HD.out.mono ?_
  rintro e w2 ⟨rfl, rfl⟩
  go_wp2_with fail
  go_region_with (go_at_call 62; refine HRD.out.mono ?_; rintro e w3 ⟨rfl, rfl⟩)
  all_goals
    go_wp2_with fail
    obtain ⟨hg1, hc1, hd1, hq1, hv1, hst1, hr1⟩ := K1.out
    obtain ⟨h0, hc0, hr0⟩ := H0.out
    obtain ⟨hne, hfb, hc2, hr2⟩ := K2.out
    have hS := (setF_ch w2 fb 0 0 1 j (.slice (some ⟨g, 0, none⟩) j j)).drew
    have hz0' := hc0.size
    have hgl := blk_lt hd1
    have hA : Ch [s + 1, s - 2] w w2 := (((Ch.refl [s + 1, s - 2] w).trans hc0 (fun j hj => by cases hj)).trans hc1 (fun j hj => .inl hj)).trans hc2 (fun j hj => by cases hj)
    have hlt0 := blk_lt hr0
    have hgne : g ≠ fb := by omega
    refine bodyPost_ret (v := .tuple #[hdA 0 0 1 j (.slice (some ⟨g, 0, none⟩) j j), .bool true, .bool (decide (0 < hv - j))]) ?_ rfl ⟨g, rfl, by omega, hA.trans hS (by simp; omega), ?_, ?_, ?_⟩
    · simp [results, Tryz.results37, go_sem, a0, a1, a2, a3, a4, a5, hdA]
    · exact hS.at_ (hc2.at_ hd1 (by simp)) (by simp; omega)
    · exact hS.at_ (hc2.at_ hq1 (by simp)) (by simp; omega)
    · exact hS.at_ (hc2.at_ hv1 (by simp)) (by simp; omega)
end Go.Proofs.YtnpmafnhbbaokaaGreatDoor
