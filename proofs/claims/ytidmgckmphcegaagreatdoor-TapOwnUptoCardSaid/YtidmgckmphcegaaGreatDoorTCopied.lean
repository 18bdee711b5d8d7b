/-
 culvertlaw26.copied: a frame with a payload of its own.
-/
import Derived.Test.YtidmgckmphcegaaGreatDoorMG
import Derived.Test.YtidmgckmphcegaaGreatDoorMC
import Derived.Test.YtidmgckmphcegaaGreatDoorMI
namespace Go.Proofs.YtidmgckmphcegaaGreatDoor
open Go.RowKit Go.Proofs.YtidmgckmphcegaaGreatDoorW.PrintWords Go.Proofs.YtidmgckmphcegaaGreatDoorW.PrintLast
set_option linter.unusedVariables false
set_option linter.unusedSimpArgs false
theorem results_cell_one {fn : Func} {p : Tmp} {ty : TypeId} (h : fn.results = #[.cell p ty]) (tmps : Array Value) (P : Program) (w : World) :
    (results fn tmps).run P w = ((asAddr (tmps.getD p undef)).run P w).andThen fun a w₁ => (loadVar ty a).run P w₁ := by
 simp only [results, h]
 simp [Sem.run_bind, Result.andThen]
theorem copied_ret {W : World} {g : Nat} {cs : Array Value} {tmps : Array Value} {Q : Ending → World → Prop} (hg : W.heap[g]? = some (.cells cs 28 (0, 0))) (hs : cs.size = 6) (hp : tmps.getD 2 undef = .pointer (some ⟨g, 0, none⟩))
    (hQ : Q (.returned (.agg cs)) W) : bodyPost Tryz.prog Tryz.f18 Q Exit.ret ⟨tmps, []⟩ W := by
 refine bodyPost_ret (v := .agg cs) ?_ rfl hQ
 have hl := run_loadVar_row (P := Tryz.prog) W g 28 28 cs (0, 0) _ hg Tryz.underlying28 rfl (by rw [hs]; kernel_rfl)
 rw [results_cell_one (p := 2) (ty := 28) (by kernel_rfl)]
 rw [hp]
 simp [asAddr, hl, Result.andThen]
set_option maxRecDepth 100000 in
set_option maxHeartbeats 2000000 in
theorem copied_any {A : Option Addr} {n c : Nat} {xs : List Int} {w : World} (ver ty fl st ln : Int) (hB : Bs w A n c xs) (hn : n ≤ 140737488355328) :
    Calls Tryz.prog 18 #[frm ver ty fl st ln A n c] w fun e w' => ∃ A' c', e = .returned (frm ver ty fl st ln A' n c') ∧ Bs w' A' n c' xs ∧ Below w.heap.size w w' := by
 have hbx := hB.byt
 obtain rfl := hB.len
 obtain ⟨w1, hw1⟩ : ∃ w1, w1 = w.alloc (.cells #[.int .u8 ver, .int .u8 ty, .int .u16 fl, .int .u32 st, .int .u32 ln, .slice A xs.length c] 28) := ⟨_, rfl⟩
 obtain ⟨W, hW⟩ : ∃ W, W = w1.alloc (.cells #[.int .u8 0, .int .u8 0, .int .u16 0, .int .u32 0, .int .u32 0, .slice none 0 0] 28) := ⟨_, rfl⟩
 have hb1 : Below w.heap.size w w1 := by rw [hw1]; exact (Below.refl _ _).alloc (Nat.le_refl _) _
 have hbW : Below w.heap.size w W := by rw [hW]; exact hb1.alloc hb1.size _
 have hs1 : w1.heap.size = w.heap.size + 1 := by rw [hw1]; simp
 have hsW : W.heap.size = w.heap.size + 1 + 1 := by rw [hW]; simp [hs1]
 have hx1 : W.heap[w.heap.size]? = some (.cells #[.int .u8 ver, .int .u8 ty, .int .u16 fl, .int .u32 st, .int .u32 ln, .slice A xs.length c] 28 (0, 0)) := by
  rw [hW]; exact keepB ba_ (by rw [hw1]; exact alloc_at _ _)
 have hx2 : W.heap[w.heap.size + 1]? = some (.cells #[.int .u8 0, .int .u8 0, .int .u16 0, .int .u32 0, .int .u32 0, .slice none 0 0] 28 (0, 0)) := by rw [hW, ← hs1]; exact alloc_at _ _
 have HWW := Lib.hid (show W = (w.alloc (.cells #[.int .u8 ver, .int .u8 ty, .int .u16 fl, .int .u32 st, .int .u32 ln, .slice A xs.length c] 28)).alloc (.cells #[.int .u8 0, .int .u8 0, .int .u16 0, .int .u32 0, .int .u32 0, .slice none 0 0] 28) by rw [hW, hw1])
 have HSW := Lib.hid hsW
 have HX1 := Lib.hid hx1
 have HX2 := Lib.hid hx2
 have HBW := Lib.hid hbW
 have HBs := Lib.hid (hB.next hbW)
 have HX := Lib.hid hbx
 clear hB hbx hw1 hW hb1 hbW hs1 hsW hx1 hx2 w1
 go_enter Tryz.func18, Tryz.ntmps18
 go_wp2_with (at_builtin; go_loud (rw [← HWW.out, ← HSW.out]; refine append_at (w0 := w) rfl _ _ rfl (.slice (some ⟨W.heap.size, 0, none⟩) 0 0) [] rfl (own_new W w.heap.size [] HBW.out.size (by simp)) _ _ _ xs rfl (HBs.out.next ba_) (by simp <;> omega) (HBW.out.alloc HBW.out.size _) ?_; intro va wa hoa hba hga _; rw [List.nil_append] at hoa; obtain ⟨Aa, ca, rfl, hqa⟩ := Own.bs hoa HX.out; have hbx := (((Below.refl W.heap.size W).alloc (Nat.le_refl _) _).grown hga (by simp) (fun k hk => by simp [Value.ownBlock] at hk; omega)); have HBX := Lib.hid hbx; have HQA := Lib.hid hqa; have HOA := Lib.hid hoa; have HXA := Lib.hid (keepB hbx HX1.out); have HYA := Lib.hid (keepB hbx HX2.out); clear hoa hba hga hqa hbx; have r5 : wa.cell? ⟨w.heap.size, 5, none⟩ = some (.slice A xs.length c) := cell_blk HXA.out rfl; have f5 : wa.frozen? ⟨w.heap.size, 5, none⟩ = false := free_blk HXA.out; have r0 : wa.cell? ⟨w.heap.size, 0, none⟩ = some (.int .u8 ver) := cell_blk HXA.out rfl; have r1 : wa.cell? ⟨w.heap.size, 1, none⟩ = some (.int .u8 ty) := cell_blk HXA.out rfl; have r2 : wa.cell? ⟨w.heap.size, 2, none⟩ = some (.int .u16 fl) := cell_blk HXA.out rfl; have r3 : wa.cell? ⟨w.heap.size, 3, none⟩ = some (.int .u32 st) := cell_blk HXA.out rfl; have r4 : wa.cell? ⟨w.heap.size, 4, none⟩ = some (.int .u32 ln) := cell_blk HXA.out rfl; have y0 : wa.cell? ⟨w.heap.size + 1, 0, none⟩ = some (.int .u8 0) := cell_blk HYA.out rfl; have z0 : wa.frozen? ⟨w.heap.size + 1, 0, none⟩ = false := free_blk HYA.out; have y1 : wa.cell? ⟨w.heap.size + 1, 1, none⟩ = some (.int .u8 0) := cell_blk HYA.out rfl; have z1 : wa.frozen? ⟨w.heap.size + 1, 1, none⟩ = false := free_blk HYA.out; have y2 : wa.cell? ⟨w.heap.size + 1, 2, none⟩ = some (.int .u16 0) := cell_blk HYA.out rfl; have z2 : wa.frozen? ⟨w.heap.size + 1, 2, none⟩ = false := free_blk HYA.out; have y3 : wa.cell? ⟨w.heap.size + 1, 3, none⟩ = some (.int .u32 0) := cell_blk HYA.out rfl; have z3 : wa.frozen? ⟨w.heap.size + 1, 3, none⟩ = false := free_blk HYA.out; have y4 : wa.cell? ⟨w.heap.size + 1, 4, none⟩ = some (.int .u32 0) := cell_blk HYA.out rfl; have z4 : wa.frozen? ⟨w.heap.size + 1, 4, none⟩ = false := free_blk HYA.out; have y5 : wa.cell? ⟨w.heap.size + 1, 5, none⟩ = some (.slice none 0 0) := cell_blk HYA.out rfl; have z5 : wa.frozen? ⟨w.heap.size + 1, 5, none⟩ = false := free_blk HYA.out))
 have h2 : ∀ k, k ≠ w.heap.size → k ≠ w.heap.size + 1 → (((((((wa.setCell ⟨w.heap.size, 5, none⟩ (.slice Aa xs.length ca)).setCell ⟨w.heap.size + 1, 0, none⟩ (.int .u8 ver)).setCell ⟨w.heap.size + 1, 1, none⟩ (.int .u8 ty)).setCell ⟨w.heap.size + 1, 2, none⟩ (.int .u16 fl)).setCell ⟨w.heap.size + 1, 3, none⟩ (.int .u32 st)).setCell ⟨w.heap.size + 1, 4, none⟩ (.int .u32 ln)).setCell ⟨w.heap.size + 1, 5, none⟩ (.slice Aa xs.length ca)).heap[k]? = wa.heap[k]? := fun k h1 h2 => by
  rw [set_other _ h2, set_other _ h2, set_other _ h2, set_other _ h2, set_other _ h2, set_other _ h2, set_other _ h1]
 have hfb := fputs_blk (W := wa.setCell ⟨w.heap.size, 5, none⟩ (.slice Aa xs.length ca)) (g := w.heap.size + 1) ((set_other _ (by omega)).trans HYA.out) ver ty fl st ln (.slice Aa xs.length ca)
 have hob := HOA.out.keep (fun k hk => h2 k (fun e => by
  obtain ⟨cs, h3⟩ := own_typed HOA.out k hk
  rw [e, HXA.out] at h3; simp at h3) (fun e => by
  obtain ⟨cs, h3⟩ := own_typed HOA.out k hk
  rw [e, HYA.out] at h3; simp at h3))
 obtain ⟨A2, c2, e2, hq2⟩ := Own.bs hob HX.out
 injection e2 with e2 _ e3
 subst e2 e3
 refine copied_ret hfb rfl rfl ⟨Aa, ca, rfl, hq2, ?_⟩
 refine fputs_below (W := wa.setCell ⟨w.heap.size, 5, none⟩ (.slice Aa xs.length ca)) (g := w.heap.size + 1) (B := w.heap.size) ((belowT HBW.out HBX.out).setCell (Nat.le_refl _) _) (by omega) ver ty fl st ln (.slice Aa xs.length ca)
end Go.Proofs.YtidmgckmphcegaaGreatDoor
