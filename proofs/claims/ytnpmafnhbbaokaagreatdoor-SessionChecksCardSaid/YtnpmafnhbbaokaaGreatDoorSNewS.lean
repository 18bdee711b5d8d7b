/-
  session.empty, New.
-/
import Derived.Test.YtnpmafnhbbaokaaGreatDoorSCheck
import Derived.Deep.RegionWith
import Derived.Deep.DeepCutAuto
import Derived.Deep.QuietTactic
import Derived.BigQuiet
import Derived.Deep.RegionLaw
import Derived.Deep.AppendLies
import Derived.Deep.RegionHeld3
import Derived.Outline
namespace Go.Proofs.YtnpmafnhbbaokaaGreatDoor
open Go Go.RowKit
set_option linter.unusedVariables false
set_option linter.unusedSimpArgs false
set_option maxRecDepth 100000 in
set_option maxHeartbeats 1000000 in
theorem empty_any {w : World} {g : Nat} {c : Cf} (hc : CfOk c) {i t w0 o0 s0 r0 p0 u0 f0 o e : Value} {hh th : Bool} (hg : w.heap[g]? = some (.cells (sx c i t w0 o0 s0 r0 p0 u0 f0 o hh th e) 57 (0, 0))) :
    Calls Tryz.prog 19 #[pt g] w fun e' w' => e' = .returned (.tuple #[]) ∧ Ch [g] w w' ∧ w'.heap.size = w.heap.size + 16 ∧
      w'.heap[g]? = some (.cells (sx c i (pt (w.heap.size + 1)) (.map (some (w.heap.size + 2))) (pt (w.heap.size + 4)) (pt (w.heap.size + 9)) (.map (some (w.heap.size + 10))) (pt (w.heap.size + 13)) (.map (some (w.heap.size + 14))) (pt (w.heap.size + 15)) o hh th e) 57 (0, 0)) ∧
      w'.heap[w.heap.size]? = some (.map #[] 0) ∧ w'.heap[w.heap.size + 1]? = some (.cells #[.int .i64 (2 * c.str), .map (some w.heap.size)] 120 (0, 0)) ∧
      w'.heap[w.heap.size + 5]? = some (.map #[] 0) ∧ w'.heap[w.heap.size + 6]? = some (.cells (lane0 (w.heap.size + 5)) 204 (0, 0)) ∧ w'.heap[w.heap.size + 7]? = some (.map #[] 0) ∧
      w'.heap[w.heap.size + 8]? = some (.cells #[.slice none 0 0, .map (some (w.heap.size + 7))] 223 (0, 0)) ∧ w'.heap[w.heap.size + 9]? = some (.cells #[pt (w.heap.size + 6), pt (w.heap.size + 8)] 142 (0, 0)) ∧ w'.heap[w.heap.size + 10]? = some (.map #[] 0) := by
  have hlt : g < w.heap.size := blk_lt hg
  have c3 : w.cell? ⟨g, 3, none⟩ = some (.int .i64 c.str) := cell_blk hg rfl
  have c9 : w.cell? ⟨g, 9, none⟩ = some t := cell_blk hg rfl
  have hf : ∀ j, w.frozen? ⟨g, j, none⟩ = false := fun j => free_blk hg
  have l1 : g < w.heap.size + 1 := by omega
  have l2 : g < w.heap.size + 1 + 1 := by omega
  have HG := Lib.hid hg
  have HC := Lib.hid hc
  have t1 := hc.t1
  have t2 := hc.t2
  clear hg hc
  go_enter Tryz.func19, Tryz.ntmps19
  unfold pt
  go_wp2_with fail
  refine (table_new (2 * c.str) (by omega)).mono ?_
  rintro e1 w1 ⟨rfl, rfl⟩
  unfold pt
  go_wp2_with fail
  obtain ⟨w2, hw2⟩ : ∃ w2, w2 = ((w.setCell ⟨g, 9, none⟩ (.pointer (some ⟨w.heap.size + 1, 0, none⟩))).alloc (.map #[] 0)).alloc (.cells #[.int .i64 (2 * c.str), .map (some w.heap.size)] 120) := ⟨_, rfl⟩
  rw [← hw2]
  have hz2 : w2.heap.size = w.heap.size + 2 := by rw [hw2]; simp
  have hg2 : w2.heap[g]? = some (.cells (sx c i (pt (w.heap.size + 1)) w0 o0 s0 r0 p0 u0 f0 o hh th e) 57 (0, 0)) := by rw [hw2]; exact alloc_old _ (alloc_old _ (set_is HG.out rfl))
  have hm2 : w2.heap[w.heap.size]? = some (.map #[] 0) := by rw [hw2]; exact alloc_old _ (alloc_is _ (by simp))
  have ht2 : w2.heap[w.heap.size + 1]? = some (.cells #[.int .i64 (2 * c.str), .map (some w.heap.size)] 120 (0, 0)) := by rw [hw2]; exact alloc_is _ (by simp)
  have hb2 : Ch [g] w w2 := by rw [hw2]; exact (((Ch.refl _ _).set (.inl (by simp)) _).alloc _).alloc _
  have HM2 := Lib.hid hm2
  have HT2 := Lib.hid ht2
  have HB2 := Lib.hid hb2
  have HZ2 := Lib.hid hz2
  have HI := Lib.hid (idle_any HC.out hg2)
  clear hm2 ht2 hb2 hz2 hg2 hw2 c3 c9 hf l1 l2
  refine HI.out.mono ?_
  rintro e3 w3 ⟨rfl, hb3, hz3, hg3, k3, k4, k5, k6, k7, k8⟩
  rw [HZ2.out] at hz3 hg3 k3 k4 k5 k6 k7 k8
  have K := Lib.hid (And.intro hb3 (And.intro hz3 (And.intro hg3 (And.intro k3 (And.intro k4 (And.intro k5 (And.intro k6 (And.intro k7 k8))))))))
  clear hb3 hz3 hg3 k3 k4 k5 k6 k7 k8
  go_wp2_with fail
  go_end0
  obtain ⟨hb3, hz3, hg3, k3, k4, k5, k6, k7, k8⟩ := K.out
  have e1 := HM2.out
  have e2 := HT2.out
  exact ⟨rfl, HB2.out.trans hb3 (fun j hj => .inl hj), hz3, hg3, hb3.at_ e1 (by simp; omega), hb3.at_ e2 (by simp; omega), k3, k4, k5, k6, k7, k8⟩
/-- What New makes, from block n on. -/
structure SN (w : World) (n : Nat) (c : Cf) (cl : Bool) : Prop where
  ouf : w.heap[n]? = some (.cells #[.int .i64 9223372036854775807, .int .i64 9223372036854775807, .slice none 0 0, .int .i64 0] 168 (0, 0))
  out : w.heap[n + 1]? = some (.cells #[pt n, .int .i64 0] 103 (0, 0))
  box : w.heap[n + 2]? = some (.cells (sx c (pt (n + 4)) (pt (n + 6)) (.map (some (n + 7))) (pt (n + 9)) (pt (n + 14)) (.map (some (n + 15))) (pt (n + 18)) (.map (some (n + 19))) (pt (n + 20)) (pt (n + 1)) false false .nilIface) 57 (0, 0))
  ids : w.heap[n + 4]? = some (.cells #[.int .u64 (lst cl), .int .u64 (grt cl), .int .u64 (lst cl + 2 * c.skp), .int .u64 (lst cl + 2 * c.skp), .int .u32 0, .int .u32 0] 109 (0, 0))
  tmp : w.heap[n + 5]? = some (.map #[] 0)
  tab : w.heap[n + 6]? = some (.cells #[.int .i64 (2 * c.str), .map (some (n + 5))] 120 (0, 0))
  lnm : w.heap[n + 10]? = some (.map #[] 0)
  ln : w.heap[n + 11]? = some (.cells (lane0 (n + 10)) 204 (0, 0))
  rbm : w.heap[n + 12]? = some (.map #[] 0)
  rb : w.heap[n + 13]? = some (.cells #[.slice none 0 0, .map (some (n + 12))] 223 (0, 0))
  sch : w.heap[n + 14]? = some (.cells #[pt (n + 11), pt (n + 13)] 142 (0, 0))
  rst : w.heap[n + 15]? = some (.map #[] 0)
  sz : n + 21 ≤ w.heap.size
theorem SN.below {w w1 : World} {n : Nat} {c : Cf} {cl : Bool} (h : SN w n c cl) (hb : Below w.heap.size w w1) : SN w1 n c cl :=
  ⟨keepB hb h.ouf, keepB hb h.out, keepB hb h.box, keepB hb h.ids, keepB hb h.tmp, keepB hb h.tab, keepB hb h.lnm, keepB hb h.ln, keepB hb h.rbm, keepB hb h.rb, keepB hb h.sch, keepB hb h.rst, Nat.le_trans h.sz hb.size⟩
def NewTo (sa : Nat → Addr) (c : Cf) (cl : Bool) (w : World) (e : Ending) (w' : World) : Prop :=
  ((¬ CfOk c ∧ e = .returned (.tuple #[.pointer none, sv (sa 10)])) ∨ (CfOk c ∧ ∃ n, e = .returned (.tuple #[pt (n + 2), .nilIface]) ∧ w.heap.size ≤ n ∧ SN w' n c cl)) ∧ Below w.heap.size w w'
set_option maxRecDepth 100000 in
set_option maxHeartbeats 1000000 in
theorem snew_any {sa : Nat → Addr} {w : World} (hG : Good w sa) (hP : Par w) (c : Cf) (cl : Bool) :
    Calls Tryz.prog 8 #[.agg (cfA c), .bool cl] w (NewTo sa c cl w) := by
  have HG := Lib.hid hG
  have HP := Lib.hid hP
  clear hG hP
  go_enter Tryz.func8, Tryz.ntmps8
  unfold cfA
  go_wp2_with fail
  obtain ⟨w0, hw0⟩ : ∃ w0, w0 = w.alloc (.cells #[.int .i64 c.win, .int .i64 c.stg, .int .i64 c.frm, .int .i64 c.str, .int .i64 c.bkl, .int .i64 c.pgs, .int .i64 c.out, .int .i64 c.skp] 23) := ⟨_, rfl⟩
  rw [← hw0]
  have hb0 : Below w.heap.size w w0 := by rw [hw0]; exact (Below.refl _ _).alloc (Nat.le_refl _) _
  have hq0 : w0.heap[w.heap.size]? = some (.cells (cfA c) 23 (0, 0)) := by rw [hw0]; exact alloc_is _ rfl
  have HB0 := Lib.hid hb0
  have HQ0 := Lib.hid hq0
  clear hb0 hq0 hw0
  refine (scheck_any (HG.out.below HB0.out) c).mono ?_
  rintro e1 w1 ⟨⟨hc, rfl⟩ | ⟨hc, rfl⟩, hb1⟩
  · have HC := Lib.hid hc
    have HB1 := Lib.hid (belowT HB0.out hb1)
    have hq1 := keepB hb1 HQ0.out
    have q0 : ∀ j v, (cfA c)[j]? = some v → w1.cell? ⟨w.heap.size, j, none⟩ = some v := fun j v h => cell_blk hq1 h
    have d0 : w1.cell? ⟨w.heap.size, 0, none⟩ = some (.int .i64 c.win) := q0 0 _ rfl
    have d1 : w1.cell? ⟨w.heap.size, 1, none⟩ = some (.int .i64 c.stg) := q0 1 _ rfl
    have d2 : w1.cell? ⟨w.heap.size, 2, none⟩ = some (.int .i64 c.frm) := q0 2 _ rfl
    have d3 : w1.cell? ⟨w.heap.size, 3, none⟩ = some (.int .i64 c.str) := q0 3 _ rfl
    have d4 : w1.cell? ⟨w.heap.size, 4, none⟩ = some (.int .i64 c.bkl) := q0 4 _ rfl
    have d5 : w1.cell? ⟨w.heap.size, 5, none⟩ = some (.int .i64 c.pgs) := q0 5 _ rfl
    have d6 : w1.cell? ⟨w.heap.size, 6, none⟩ = some (.int .i64 c.out) := q0 6 _ rfl
    have d7 : w1.cell? ⟨w.heap.size, 7, none⟩ = some (.int .i64 c.skp) := q0 7 _ rfl
    have hlt : w.heap.size < w1.heap.size := blk_lt hq1
    have l1 : w.heap.size < w1.heap.size + 1 := by omega
    have l2 : w.heap.size < w1.heap.size + 1 + 1 := by omega
    have l3 : w.heap.size < w1.heap.size + 1 + 1 + 1 := by omega
    clear hc hb1 hq1 q0
    go_upto_region 4 with fail
    go_region_with (first | (go_at_call 17; refine out_new.mono ?_; rintro e2 w2 ⟨rfl, rfl⟩; unfold pt) | fail)
    all_goals
      go_wp2_with fail
      obtain ⟨w2, hw2⟩ : ∃ w2, w2 = (((w1.alloc (.cells #[.int .i64 9223372036854775807, .int .i64 9223372036854775807, .slice none 0 0, .int .i64 0] 168)).alloc (.cells #[.pointer (some ⟨w1.heap.size, 0, none⟩), .int .i64 0] 103)).alloc (.cells #[.int .i64 c.win, .int .i64 c.stg, .int .i64 c.frm, .int .i64 c.str, .int .i64 c.bkl, .int .i64 c.pgs, .int .i64 c.out, .int .i64 c.skp, .pointer none, .pointer none, .map none, .pointer none, .pointer none, .map none, .pointer none, .map none, .pointer none, .pointer (some ⟨w1.heap.size + 1, 0, none⟩), .bool false, .bool false, .nilIface] 57)).drew := ⟨_, rfl⟩
      rw [← hw2]
      have hz2 : w2.heap.size = w1.heap.size + 3 := by rw [hw2]; simp
      have hs2 : w2.heap[w1.heap.size + 2]? = some (.cells (sx c (.pointer none) (.pointer none) (.map none) (.pointer none) (.pointer none) (.map none) (.pointer none) (.map none) (.pointer none) (pt (w1.heap.size + 1)) false false .nilIface) 57 (0, 0)) := by rw [hw2]; exact drew_blk (alloc_is _ (by simp))
      have ho2 : w2.heap[w1.heap.size + 1]? = some (.cells #[pt w1.heap.size, .int .i64 0] 103 (0, 0)) := by rw [hw2]; exact drew_blk (alloc_old _ (alloc_is _ (by simp)))
      have hf2 : w2.heap[w1.heap.size]? = some (.cells #[.int .i64 9223372036854775807, .int .i64 9223372036854775807, .slice none 0 0, .int .i64 0] 168 (0, 0)) := by rw [hw2]; exact drew_blk (alloc_old _ (alloc_old _ (alloc_is _ rfl)))
      have hb2 : Below w1.heap.size w1 w2 := by rw [hw2]; exact ((((Below.refl _ _).alloc (Nat.le_refl _) _).alloc (by simp) _).alloc (by simp; omega) _).drew
      have HI := Lib.hid (ids_new cl c.skp HC.out.k1 HC.out.k2 (HP.out.below (belowT HB1.out hb2)))
      have K2 := Lib.hid (And.intro hz2 (And.intro hs2 (And.intro ho2 (And.intro hf2 hb2))))
      clear hz2 hs2 ho2 hf2 hb2 hw2 d0 d1 d2 d3 d4 d5 d6 d7 l1 l2 l3
      refine HI.out.mono ?_
      rintro e3 w3 ⟨rfl, hb3, hz3, hi3⟩
      obtain ⟨hz2, hs2, ho2, hf2, hb2⟩ := K2.out
      have hs3 := keepB hb3 hs2
      have q8 : w3.cell? ⟨w1.heap.size + 1 + 1, 8, none⟩ = some (.pointer none) := cell_blk hs3 rfl
      have qf : ∀ j, w3.frozen? ⟨w1.heap.size + 1 + 1, j, none⟩ = false := fun j => free_blk hs3
      have K3 := Lib.hid (And.intro hb3 (And.intro hz3 (And.intro hi3 hs3)))
      clear hz2 hs2 ho2 hf2 hb2 hb3 hz3 hi3 hs3
      unfold pt
      go_wp2_with fail
      obtain ⟨w4, hw4⟩ : ∃ w4, w4 = w3.setCell ⟨w1.heap.size + 1 + 1, 8, none⟩ (.pointer (some ⟨w2.heap.size + 1, 0, none⟩)) := ⟨_, rfl⟩
      rw [← hw4]
      obtain ⟨hb3, hz3, hi3, hs3⟩ := K3.out
      have hs4 : w4.heap[w1.heap.size + 2]? = some (.cells (sx c (pt (w2.heap.size + 1)) (.pointer none) (.map none) (.pointer none) (.pointer none) (.map none) (.pointer none) (.map none) (.pointer none) (pt (w1.heap.size + 1)) false false .nilIface) 57 (0, 0)) := by rw [hw4]; exact set_is hs3 rfl
      have hb4 : Ch [w1.heap.size + 2] w3 w4 := by rw [hw4]; exact (Ch.refl _ _).set (.inl (by simp)) _
      have hz4 : w4.heap.size = w3.heap.size := by rw [hw4]; simp
      have HI4 := Lib.hid (empty_any HC.out hs4)
      have K4 := Lib.hid (And.intro hb4 hz4)
      clear hb3 hz3 hi3 hs3 hs4 hb4 hz4 hw4 q8 qf
      refine HI4.out.mono ?_
      rintro e5 w5 ⟨rfl, hc5, hz5, hs5, k0, k1, k5, k6, k7, k8, k9, k10⟩
      have K5 := Lib.hid (And.intro hc5 (And.intro hz5 (And.intro hs5 (And.intro k0 (And.intro k1 (And.intro k5 (And.intro k6 (And.intro k7 (And.intro k8 (And.intro k9 k10))))))))))
      clear hc5 hz5 hs5 k0 k1 k5 k6 k7 k8 k9 k10
      go_wp2_with fail
      go_ret2
      obtain ⟨hz2, hs2, ho2, hf2, hb2⟩ := K2.out
      obtain ⟨hb3, hz3, hi3, hs3⟩ := K3.out
      obtain ⟨hb4, hz4⟩ := K4.out
      obtain ⟨hc5, hz5, hs5, k0, k1, k5, k6, k7, k8, k9, k10⟩ := K5.out
      have e4 : w4.heap.size = w1.heap.size + 5 := by omega
      have e2 : w2.heap.size = w1.heap.size + 3 := hz2
      rw [e4] at hz5 hs5 k0 k1 k5 k6 k7 k8 k9 k10
      rw [e2] at hs5 hi3
      have hB4 : Below w1.heap.size w1 w4 := (hb2.trans (hb3.mono (by omega))).trans (hb4.below (by simp) (by omega))
      have hB5 : Below w1.heap.size w4 w5 := hc5.below (by simp) (by omega)
      refine ⟨.inr ⟨HC.out, w1.heap.size, rfl, by have := HB1.out.size; omega, ?_⟩, ?_⟩
      · exact ⟨hc5.at_ (hb4.at_ (keepB hb3 hf2) (by simp)) (by simp), hc5.at_ (hb4.at_ (keepB hb3 ho2) (by simp)) (by simp), hs5, hc5.at_ (hb4.at_ hi3 (by simp)) (by simp), k0, k1, k5, k6, k7, k8, k9, k10, by omega⟩
      · exact HB1.out.trans ((hB4.trans hB5).mono (by omega))
  · have HN := Lib.hid hc
    have HB1 := Lib.hid (belowT HB0.out hb1)
    clear hc hb1
    go_wp2_with fail
    go_ret2
    exact ⟨.inl ⟨HN.out, rfl⟩, HB1.out⟩
end Go.Proofs.YtnpmafnhbbaokaaGreatDoor
