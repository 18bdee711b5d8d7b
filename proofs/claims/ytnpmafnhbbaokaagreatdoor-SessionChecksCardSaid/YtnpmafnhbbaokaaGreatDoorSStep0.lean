/-
  session.Step: nothing to lay out.
-/
import Derived.Test.YtnpmafnhbbaokaaGreatDoorSStepD
namespace Go.Proofs.YtnpmafnhbbaokaaGreatDoor
open Go Go.RowKit
open Go.ChangeMaps (setBlock)
set_option linter.unusedVariables false
set_option linter.unusedSimpArgs false
set_option maxRecDepth 100000 in
set_option maxHeartbeats 2000000 in
theorem snext_0 {w : World} {c : Cf} {n s r o cap k : Nat} {A : Option Addr} {mk og : Int} {ouf ring : Array Value} {lnm rbm : Obj} {hv sp : Int}
    (hg : SG w n s c mk (laneC (.slice A 0 k) (n + 10) 0) lnm (rb1 r o 0 cap n) rbm og ouf hv sp ring) :
    Calls Tryz.prog 36 #[pt (n + 14), dataV n] w fun e w' => e = .returned (.tuple #[hdA 0 0 0 0 (.slice none 0 0), .bool false]) ∧ Ch [] w w' := by
  obtain ⟨w0, hw0⟩ : ∃ w0, w0 = w.alloc (.cells fr0 89) := ⟨_, rfl⟩
  have hc0 : Ch [] w w0 := by rw [hw0]; exact (Ch.refl _ _).alloc _
  have hr0 : w0.heap[w.heap.size]? = some (.cells fr0 89 (0, 0)) := by rw [hw0]; exact alloc_is _ rfl
  have h0 := hg.step hc0
  have c0 : w0.cell? ⟨n + 14, 0, none⟩ = some (.pointer (some ⟨n + 11, 0, none⟩)) := cell_blk h0.sch rfl
  have HL := Lib.hid (lnext_0 h0.ln)
  have HW := Lib.hid hw0
  have H0 := Lib.hid (And.intro h0 (And.intro hc0 hr0))
  clear hg hc0 hr0 h0 hw0
  unfold fr0 at HW
  unfold pt at HL
  go_enter Tryz.func36, Tryz.ntmps36
  unfold pt
  go_upto_region 1 with fail
  rw [← HW.out]
  go_wp2_with fail
  refine HL.out.mono ?_
  rintro e w1 ⟨rfl, hb1⟩
  have HB1 := Lib.hid hb1
  clear hb1 c0
  unfold tk0
  go_upto_region 7 with fail
  obtain ⟨w2, hw2⟩ : ∃ w2, w2 = w1.alloc (.cells #[.int .i64 0, .int .u32 0, .int .u32 0] 79) := ⟨_, rfl⟩
  rw [← hw2]
  have hc2 : Ch [] w0 w2 := by rw [hw2]; exact (Ch.of_below HB1.out).alloc _
  obtain ⟨h0, hc0, hr0⟩ := H0.out
  have h2 := h0.step hc2
  have hr2 := hc2.at_ hr0 (by simp)
  have HN := Lib.hid (rnext_0 h2.rb)
  have c1 : w2.cell? ⟨n + 14, 1, none⟩ = some (.pointer (some ⟨n + 13, 0, none⟩)) := cell_blk h2.sch rfl
  have hdn : ∀ W, (binOp .eql 92 (dataV n) .nilFunc).run Tryz.prog W = .ok (.bool false) W := fun _ => by kernel_rfl
  have hge : ∀ W, (eqGuard .eql 92 (.tmp 36) (.const .nilFunc) (dataV n) .nilFunc).run Tryz.prog W = .ok () W := fun _ => by kernel_rfl
  have H2 := Lib.hid (And.intro hc2 hr2)
  have K2 := Lib.hid (And.intro hc0 hr0)
  clear h0 hc0 hr0 h2 hr2 hw2 hc2 HL
  unfold pt at HN
  go_wp2_with fail
  refine wp_loop_rounds 1 ?_
  rw [rounds_succ]
  go_wp2_with fail
  refine HN.out.mono ?_
  rintro e w2 ⟨rfl, rfl⟩
  go_upto_region 11 with fail
  obtain ⟨hc2, hr2⟩ := H2.out
  obtain ⟨fb, hfb⟩ : ∃ fb, fb = w.heap.size := ⟨_, rfl⟩
  rw [← hfb] at hr2 ⊢
  have a0 : w2.cell? ⟨fb, 0, none⟩ = some (.int .u8 0) := cell_blk hr2 rfl
  have a1 : w2.cell? ⟨fb, 1, none⟩ = some (.int .u8 0) := cell_blk hr2 rfl
  have a2 : w2.cell? ⟨fb, 2, none⟩ = some (.int .u16 0) := cell_blk hr2 rfl
  have a3 : w2.cell? ⟨fb, 3, none⟩ = some (.int .u32 0) := cell_blk hr2 rfl
  have a4 : w2.cell? ⟨fb, 4, none⟩ = some (.int .u32 0) := cell_blk hr2 rfl
  have a5 : w2.cell? ⟨fb, 5, none⟩ = some (.slice none 0 0) := cell_blk hr2 rfl
  have af : ∀ j, w2.frozen? ⟨fb, j, none⟩ = false := fun j => free_blk hr2
  have K6 := Lib.hid (And.intro hc2 hfb)
  clear hc2 hr2 hfb
  go_wp2_with fail
  obtain ⟨hc0, hr0⟩ := K2.out
  obtain ⟨hc2, hfb⟩ := K6.out
  have hS := setF_ch w2 fb 0 0 0 0 (.slice none 0 0)
  refine bodyPost_ret (v := .tuple #[hdA 0 0 0 0 (.slice none 0 0), .bool false]) ?_ rfl ⟨rfl, (hc0.trans hc2 (fun j hj => .inl hj)).trans hS (by simp; omega)⟩
  simp [results, Tryz.results36, go_sem, a0, a1, a2, a3, a4, a5, hdA]
set_option maxRecDepth 100000 in
set_option maxHeartbeats 2000000 in
theorem step_0 {w : World} {c : Cf} {n s r o cap k : Nat} {A : Option Addr} {mk : Int} {ring : Array Value} {lnm rbm : Obj} {hv sp : Int} {v : Value} {qs : List (Value × List Int)} (hc : CfOk c) (hqt : (tot qs : Int) < c.out)
    (hg : SG w n s c mk (laneC (.slice A 0 k) (n + 10) 0) lnm (rb1 r o 0 cap n) rbm 0 (ouC v (tot qs)) hv sp ring) :
    Calls Tryz.prog 14 #[pt (n + 2)] w fun e w' => e = .returned (.bool false) ∧ Ch [] w w' := by
  have c6 : w.cell? ⟨n + 2, 6, none⟩ = some (.int .i64 c.out) := cell_blk hg.box rfl
  have c12 : w.cell? ⟨n + 2, 12, none⟩ = some (.pointer (some ⟨n + 14, 0, none⟩)) := cell_blk hg.box rfl
  have c17 : w.cell? ⟨n + 2, 17, none⟩ = some (.pointer (some ⟨n + 1, 0, none⟩)) := cell_blk hg.box rfl
  have c20 : w.cell? ⟨n + 2, 20, none⟩ = some .nilIface := cell_blk hg.box rfl
  have ho2 := hc.o2
  have HLn : ∀ k, Calls Tryz.prog 35 #[.pointer (some ⟨n + 1, 0, none⟩)] (w.drewN k) fun e w' => e = .returned (.int .i64 (tot qs - 0)) ∧ ∃ m, w' = (w.drewN k).drewN m := fun k => olen_any (w := w.drewN k) hg.ouf hg.out (by decide) (by omega) (by omega)
  have d1 : decide (c.out ≤ (tot qs : Int)) = false := by simp; omega
  have d2 : decide (c.out ≤ (tot qs : Int) - 0) = false := by simp; omega
  have HN := Lib.hid (fun i => snext_0 (w := w.drewN i) (hg.step ((Ch.refl [] w).drewN i)))
  clear hg
  go_enter Tryz.func14, Tryz.ntmps14
  unfold pt
  go_wp2_with fail
  go_quiet ((go_at_call 35; exact Calls.quiet_of (HLn _)))
  go_wp2_with fail
  refine (HN.out nq).mono ?_
  rintro e w1 ⟨rfl, hc1⟩
  have K1 := Lib.hid hc1
  clear hc1 c6 c12 c17 c20 HLn d1 d2
  unfold hdA
  go_wp2_with fail
  go_ret
  exact ⟨rfl, (((Ch.refl [] w).drewN nq).trans K1.out (fun j hj => .inl hj)).alloc _⟩
end Go.Proofs.YtnpmafnhbbaokaaGreatDoor
