/-
  stream.Frame: the frame's bytes go out of the ring, the credit is spent.
-/
import Derived.Test.YtnpmafnhbbaokaaGreatDoorSPeek
import Derived.Test.YtnpmafnhbbaokaaGreatDoorSStep
import Derived.StillTailTactics
import Derived.Deep.Cut
namespace Go.Proofs.YtnpmafnhbbaokaaGreatDoor
open Go Go.RowKit
open Go.ChangeMaps (setBlock)
set_option linter.unusedVariables false
set_option linter.unusedSimpArgs false
set_option maxRecDepth 100000 in
set_option maxHeartbeats 1000000 in
theorem spend_any {w : World} {d : Nat} {wi hv sp n : Int} {x : Addr} (hx : w.cell? ⟨3, 0, none⟩ = some (sv x)) (hd : w.heap[d]? = some (.cells #[.int .u32 wi, .int .u32 hv, .int .u64 sp] 190 (0, 0))) (h0 : 0 ≤ n) (h1 : n ≤ hv) (h2 : hv ≤ 4294967295) (s0 : 0 ≤ sp) (s1 : sp ≤ 1000000) :
    Calls Tryz.prog 99 #[pt d, .int .i64 n] w fun e w' => e = .returned .nilIface ∧ Ch [d] w w' ∧ w'.heap[d]? = some (.cells #[.int .u32 wi, .int .u32 (hv - n), .int .u64 (sp + n)] 190 (0, 0)) := by
  have c1 : w.cell? ⟨d, 1, none⟩ = some (.int .u32 hv) := cell_blk hd rfl
  have c2 : w.cell? ⟨d, 2, none⟩ = some (.int .u64 sp) := cell_blk hd rfl
  have hf : ∀ j, w.frozen? ⟨d, j, none⟩ = false := fun j => free_blk hd
  have hlt : d < w.heap.size := blk_lt hd
  have HN := Lib.hid (narrow_any (w := w) (n := n) h0 (by omega))
  have HS := Lib.hid (sub_any (w := w) (a := hv) (b := n) h0 h1 h2)
  have HD := Lib.hid hd
  have z1 : IntKind.u64.wrap n = n := by rw [IntKind.wrap_u64]; omega
  have z2 : IntKind.u64.wrap (sp + n) = sp + n := by rw [IntKind.wrap_u64]; omega
  clear hd
  go_enter Tryz.func99, Tryz.ntmps99
  unfold pt
  go_wp2_with fail
  refine HN.out.mono ?_
  rintro e w ⟨rfl, rfl⟩
  go_wp2_with fail
  refine (is_nil x _).mono ?_
  rintro e w ⟨rfl, rfl⟩
  go_wp2_with fail
  refine HS.out.mono ?_
  rintro e w ⟨rfl, rfl⟩
  go_wp2_with fail
  go_ret
  refine ⟨rfl, ((Ch.refl _ _).set (.inl (by simp)) _).set (.inl (by simp)) _, ?_⟩
  exact set_is (set_is HD.out rfl) rfl
theorem Ch.cell_ {L : List Nat} {w w1 : World} (h : Ch L w w1) {a : Addr} {v : Value} (hc : w.cell? a = some v) (hn : a.block ∉ L) : w1.cell? a = some v := (World.cell?_of_block (w := w) (h.block a.block (World.block_lt_of_cell? w a hc) hn)).trans hc
/-- A frame laid into a result's block. -/
def setF (w : World) (b : Nat) (ty fl st ln : Int) (d : Value) : World := (((((w.setCell ⟨b, 0, none⟩ (.int .u8 0)).setCell ⟨b, 1, none⟩ (.int .u8 ty)).setCell ⟨b, 2, none⟩ (.int .u16 fl)).setCell ⟨b, 3, none⟩ (.int .u32 st)).setCell ⟨b, 4, none⟩ (.int .u32 ln)).setCell ⟨b, 5, none⟩ d
theorem setF_ch (w : World) (b : Nat) (ty fl st ln : Int) (d : Value) : Ch [b] w (setF w b ty fl st ln d) := ((((((Ch.refl _ _).set (.inl (by simp)) _).set (.inl (by simp)) _).set (.inl (by simp)) _).set (.inl (by simp)) _).set (.inl (by simp)) _).set (.inl (by simp)) _
theorem setF_is {w : World} {b : Nat} {c : Array Value} (h : w.heap[b]? = some (.cells c 89 (0, 0))) (hc : c = fr0) (ty fl st ln : Int) (d : Value) : (setF w b ty fl st ln d).heap[b]? = some (.cells (fr6 ty fl st ln d) 89 (0, 0)) := by
  subst hc
  exact set_is (set_is (set_is (set_is (set_is (set_is h rfl) rfl) rfl) rfl) rfl) rfl
def PopH (h m j : Nat) (hv : Int) : Prop := (h = 0 ∧ m = 5 ∧ j = 3 ∧ hv = 4) ∨ (h = 3 ∧ m = 2 ∧ j = 1 ∧ hv = 1)
theorem PopH.c {h m j : Nat} {hv : Int} (hp : PopH h m j hv) : PopC h m j := hp.elim (fun h => .inl ⟨h.1, h.2.1, h.2.2.1⟩) (fun h => .inr ⟨h.1, h.2.1, h.2.2.1⟩)
theorem min_h {h m j : Nat} {hv : Int} (hp : PopH h m j hv) (W : World) : (Builtin.min_ #[3, 3] 3 #[.int .i64 3, .int .i64 hv]).run Tryz.prog W = .ok (.int .i64 j) W := by
  rcases hp with ⟨rfl, rfl, rfl, rfl⟩ | ⟨rfl, rfl, rfl, rfl⟩ <;> kernel_rfl
set_option maxRecDepth 100000 in
set_option maxHeartbeats 2000000 in
theorem sframe_1 {w : World} {c : Cf} {s b h m j : Nat} {hv sp : Int} {x : Addr} (hp : PopH h m j hv) (hfr : c.frm = 3) (hx : w.cell? ⟨3, 0, none⟩ = some (sv x)) (hgx : 3 < s - 2) (hs2 : 2 ≤ s) (hs : w.heap[s]? = some (.cells (st1 c s) 126 (0, 0))) (hq : w.heap[s + 1]? = some (.cells (rgC b h m) 188 (0, 0))) (hb : w.heap[b]? = some (.cells ab8 5 (0, 0))) (hd : w.heap[s - 2]? = some (.cells #[.int .u32 c.win, .int .u32 hv, .int .u64 sp] 190 (0, 0))) (s0 : 0 ≤ sp) (s1 : sp ≤ 1000000) :
    Calls Tryz.prog 70 #[pt s] w fun e w' => ∃ g, e = .returned (.tuple #[hdA 0 0 1 j (.slice (some ⟨g, 0, none⟩) j j), .bool true]) ∧ w.heap.size ≤ g ∧ Ch [s + 1, s - 2] w w' ∧ w'.heap[g]? = some (.cells (dv h j) 5 (0, 0)) ∧ w'.heap[s + 1]? = some (.cells (rgC b (h + j) (m - j)) 188 (0, 0)) ∧ w'.heap[s - 2]? = some (.cells #[.int .u32 c.win, .int .u32 (hv - j), .int .u64 (sp + j)] 190 (0, 0)) := by
  have hlt : s < w.heap.size := blk_lt hs
  have c0 : w.cell? ⟨s, 0, none⟩ = some (.int .u32 1) := cell_blk hs rfl
  have c3 : w.cell? ⟨s, 3, none⟩ = some (.int .i64 3) := (cell_blk (v := .int .i64 c.frm) hs rfl).trans (by rw [hfr])
  have c5 : w.cell? ⟨s, 5, none⟩ = some (pt (s + 1)) := cell_blk hs rfl
  have c6 : w.cell? ⟨s, 6, none⟩ = some (.bool false) := cell_blk hs rfl
  have c8 : w.cell? ⟨s, 8, none⟩ = some (pt (s - 2)) := cell_blk hs rfl
  have hm1 : (1 : Int) ≤ m := by rcases hp with ⟨rfl, rfl, rfl, rfl⟩ | ⟨rfl, rfl, rfl, rfl⟩ <;> decide
  have hv1 : (0 : Int) < hv := by rcases hp with ⟨rfl, rfl, rfl, rfl⟩ | ⟨rfl, rfl, rfl, rfl⟩ <;> decide
  have zj : IntKind.u32.wrap (j : Int) = j := by rcases hp with ⟨rfl, rfl, rfl, rfl⟩ | ⟨rfl, rfl, rfl, rfl⟩ <;> decide
  have zv : IntKind.i64.wrap hv = hv := by rcases hp with ⟨rfl, rfl, rfl, rfl⟩ | ⟨rfl, rfl, rfl, rfl⟩ <;> decide
  have hmn := min_h hp
  have hb1 : Below w.heap.size w (w.alloc (.cells fr0 89)) := (Below.refl _ _).alloc (Nat.le_refl _) _
  have HR := Lib.hid (ready_any (w := w.alloc (.cells fr0 89)) (alloc_old _ hs) (alloc_old _ hq) (alloc_old _ hd) hm1)
  have H := Lib.hid (And.intro hs (And.intro hq (And.intro hb hd)))
  have HX := Lib.hid hx
  have HP := Lib.hid hp
  have zb : w.heap.size < w.heap.size + 1 := by omega
  clear hs hq hb hd hx hp hb1
  unfold fr0 at HR
  unfold pt at c5 c8
  go_enter Tryz.func70, Tryz.ntmps70
  unfold pt
  go_wp2_with fail
  refine HR.out.mono ?_
  rintro e w1 ⟨rfl, hw1⟩
  have hb1 : Below w.heap.size w w1 := by rw [hw1]; exact (Below.refl _ _).alloc (Nat.le_refl _) _
  have hz1 : w1.heap.size = w.heap.size + 1 := by rw [hw1]; simp
  have hg1 : w1.heap[w.heap.size]? = some (.cells fr0 89 (0, 0)) := by rw [hw1]; exact alloc_is _ rfl
  have ha1 : Ch [] w w1 := Ch.of_below hb1
  obtain ⟨hs, hq, hb, hd⟩ := H.out
  have hs1 := ha1.at_ hs (by simp)
  have hq1 := ha1.at_ hq (by simp)
  have hbb1 := ha1.at_ hb (by simp)
  have hd1 := ha1.at_ hd (by simp)
  have HHV := Lib.hid (have_any (w := w1.drew) hd1)
  have HPOP := Lib.hid (pop_1 (w := w1.drew) HP.out.c hq1 hbb1)
  have c3 : w1.cell? ⟨s, 3, none⟩ = some (.int .i64 3) := (cell_blk (v := .int .i64 c.frm) hs1 rfl).trans (by rw [hfr])
  have c5 : w1.cell? ⟨s, 5, none⟩ = some (.pointer (some ⟨s + 1, 0, none⟩)) := cell_blk hs1 rfl
  have c8 : w1.cell? ⟨s, 8, none⟩ = some (.pointer (some ⟨s - 2, 0, none⟩)) := cell_blk hs1 rfl
  have K1 := Lib.hid (And.intro ha1 (And.intro hg1 (And.intro hs1 hd1)))
  clear hs hq hb hd hs1 hq1 hbb1 hd1 ha1 hg1 hw1 hb1 HR c0 c6
  unfold pt at HHV HPOP
  go_wp2_with fail
  refine wp_region_still_tail 15 (by kernel_rfl) (by kernel_rfl) ?_
  simp only [List.take_succ_cons, List.take_zero, List.drop_succ_cons, List.drop_zero]
  repeat still_step
  still_call HHV.out
  repeat still_step
  refine wpStill_nil ?_
  change wpList _ _ _ _ _ w1.drew
  go_wp2_with fail
  refine HPOP.out.mono ?_
  rintro e w2 ⟨g, rfl, hg2, hk⟩
  have K2 := Lib.hid (And.intro hg2 hk)
  clear hg2 hk
  obtain ⟨hg2, hc2, hgg2, hq2⟩ := K2.out
  obtain ⟨ha1, hg1, hs1, hd1⟩ := K1.out
  have hz2 := hc2.size
  have hz2' : w.heap.size + 1 ≤ w2.heap.size := by rw [← hz1]; exact hz2
  have hs2' := hc2.at_ (drew_blk hs1) (by simp)
  have hd2 := hc2.at_ (drew_blk hd1) (by simp; omega)
  have hr2 := hc2.at_ (drew_blk hg1) (by have := blk_lt H.out.2.1; simp; omega)
  have HSP := Lib.hid (spend_any (w := w2) (n := j) (hc2.cell_ (a := ⟨3, 0, none⟩) (ha1.drew.cell_ HX.out (by simp)) (by simp; omega)) hd2 (by omega) (by rcases HP.out with ⟨rfl, rfl, rfl, rfl⟩ | ⟨rfl, rfl, rfl, rfl⟩ <;> decide) (by rcases HP.out with ⟨rfl, rfl, rfl, rfl⟩ | ⟨rfl, rfl, rfl, rfl⟩ <;> decide) s0 s1)
  have c8 : w2.cell? ⟨s, 8, none⟩ = some (.pointer (some ⟨s - 2, 0, none⟩)) := cell_blk hs2' rfl
  have K3 := Lib.hid (And.intro hs2' hr2)
  clear hg2 hc2 hgg2 hq2 ha1 hg1 hs1 hd1 hs2' hd2 hr2 HHV HPOP hmn
  unfold pt at HSP
  go_wp2_with fail
  refine HSP.out.mono ?_
  rintro e w3 ⟨rfl, hc3, hd3⟩
  obtain ⟨hs2', hr2⟩ := K3.out
  have hs3 := hc3.at_ hs2' (by simp; omega)
  have hr3 := hc3.at_ hr2 (by have := blk_lt H.out.2.2.2; simp; omega)
  have hz3 := hc3.size
  have K4 := Lib.hid (And.intro hc3 (And.intro hd3 (And.intro hs3 hr3)))
  have c0 : w3.cell? ⟨s, 0, none⟩ = some (.int .u32 1) := cell_blk hs3 rfl
  have zs3 : s < w3.heap.size := blk_lt hs3
  have c6 : w3.cell? ⟨s, 6, none⟩ = some (.bool false) := cell_blk hs3 rfl
  have zf : w.heap.size < w3.heap.size := blk_lt hr3
  have K5 := Lib.hid (And.intro zf hr3)
  clear hc3 hd3 hs3 hr3 hs2' hr2 HSP c8 zb zf
  go_upto_region 9 with fail
  obtain ⟨w4, hw4⟩ : ∃ w4, w4 = w3.alloc (.cells #[.int .u8 0, .int .u8 0, .int .u16 0, .int .u32 1, .int .u32 j, .slice (some ⟨g, 0, none⟩) j j] 89) := ⟨_, rfl⟩
  rw [← hw4]
  obtain ⟨zf, hr3⟩ := K5.out
  obtain ⟨fb, hfb⟩ : ∃ fb, fb = w.heap.size := ⟨_, rfl⟩
  obtain ⟨tb, htb⟩ : ∃ tb, tb = w3.heap.size := ⟨_, rfl⟩
  rw [← htb]
  rw [← hfb] at hr3 zf ⊢
  have hc4 : Ch [] w3 w4 := by rw [hw4]; exact (Ch.refl _ _).alloc _
  have hr4 := hc4.at_ hr3 (by simp)
  have g4 : w4.heap[tb]? = some (.cells (fr6 0 0 1 j (.slice (some ⟨g, 0, none⟩) j j)) 89 (0, 0)) := by rw [hw4]; exact alloc_is _ htb.symm
  have hne : fb ≠ tb := by omega
  have a0 : w4.cell? ⟨fb, 0, none⟩ = some (.int .u8 0) := cell_blk hr4 rfl
  have a1 : w4.cell? ⟨fb, 1, none⟩ = some (.int .u8 0) := cell_blk hr4 rfl
  have a2 : w4.cell? ⟨fb, 2, none⟩ = some (.int .u16 0) := cell_blk hr4 rfl
  have a3 : w4.cell? ⟨fb, 3, none⟩ = some (.int .u32 0) := cell_blk hr4 rfl
  have a4 : w4.cell? ⟨fb, 4, none⟩ = some (.int .u32 0) := cell_blk hr4 rfl
  have a5 : w4.cell? ⟨fb, 5, none⟩ = some (.slice none 0 0) := cell_blk hr4 rfl
  have af : ∀ j, w4.frozen? ⟨fb, j, none⟩ = false := fun j => free_blk hr4
  have b0 : w4.cell? ⟨tb, 0, none⟩ = some (.int .u8 0) := cell_blk g4 rfl
  have b1 : w4.cell? ⟨tb, 1, none⟩ = some (.int .u8 0) := cell_blk g4 rfl
  have b2 : w4.cell? ⟨tb, 2, none⟩ = some (.int .u16 0) := cell_blk g4 rfl
  have b3 : w4.cell? ⟨tb, 3, none⟩ = some (.int .u32 1) := cell_blk g4 rfl
  have b4 : w4.cell? ⟨tb, 4, none⟩ = some (.int .u32 j) := cell_blk g4 rfl
  have b5 : w4.cell? ⟨tb, 5, none⟩ = some (.slice (some ⟨g, 0, none⟩) j j) := cell_blk g4 rfl
  have HNE := Lib.hid (And.intro hne (And.intro hfb (And.intro hc4 hr4)))
  clear hc4 hr4 g4 hw4 hne hfb htb zf hr3 c0 c6
  have hne' := HNE.out.1
  go_wp2_with fail
  obtain ⟨hg2, hc2, hgg2, hq2⟩ := K2.out
  obtain ⟨ha1, hg1, hs1, hd1⟩ := K1.out
  obtain ⟨hc3, hd3, hs3, _⟩ := K4.out
  obtain ⟨hs0, hq0, hb0, hd0⟩ := H.out
  obtain ⟨_, hfb, hc4, hr4⟩ := HNE.out
  have hd0' := blk_lt hd0
  have hq0' := blk_lt hq0
  have hg2' : w1.heap.size ≤ g := hg2
  have hz3 := hc3.size
  have hgl := blk_lt hgg2
  have hA : Ch [s + 1, s - 2] w w1.drew := ha1.drew.mono (fun j hj => by cases hj)
  have hB : Ch [s + 1, s - 2] w w2 := hA.trans hc2 (fun j hj => .inl (by simp at hj ⊢; omega))
  have hC : Ch [s + 1, s - 2] w w4 := (hB.trans hc3 (fun j hj => .inl (by simp at hj ⊢; omega))).trans hc4 (fun j hj => by cases hj)
  have hS := setF_ch w4 fb 0 0 1 j (.slice (some ⟨g, 0, none⟩) j j)
  refine bodyPost_ret (v := .tuple #[hdA 0 0 1 j (.slice (some ⟨g, 0, none⟩) j j), .bool true]) ?_ rfl ⟨g, rfl, by omega, hC.trans hS (by simp; omega), ?_, ?_, ?_⟩
  · simp [results, Tryz.results70, go_sem, a0, a1, a2, a3, a4, a5, hdA]
  · exact hS.at_ (hc4.at_ (hc3.at_ hgg2 (by simp; omega)) (by simp)) (by simp; omega)
  · exact hS.at_ (hc4.at_ (hc3.at_ hq2 (by simp; omega)) (by simp)) (by simp; omega)
  · exact hS.at_ (hc4.at_ hd3 (by simp)) (by simp; omega)
end Go.Proofs.YtnpmafnhbbaokaaGreatDoor
