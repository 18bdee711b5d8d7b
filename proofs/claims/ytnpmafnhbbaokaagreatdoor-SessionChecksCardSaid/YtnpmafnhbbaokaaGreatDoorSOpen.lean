/-
  session.Open of the first stream.
-/
import Derived.Test.YtnpmafnhbbaokaaGreatDoorSPut
import Derived.RangeFuncNested
import Derived.RangeFuncBound
import Derived.RangeFuncCalls
import Derived.RangeFuncLeaves
import Derived.Shelf.Abstract
import Derived.Shelf.RegionOpen
import Derived.OwnWalkIn
import Derived.TacticsInMore
import Derived.LoopNIn
import Derived.LoopIn
import Derived.Lib.QuietBelow
namespace Go.Proofs.YtnpmafnhbbaokaaGreatDoor
open Go Go.RowKit Go.Shelf
open Go.ChangeMaps (setBlock)
set_option linter.unusedVariables false
set_option linter.unusedSimpArgs false
theorem all1_any {w : World} {a : Nat} {x : Value} (ha : w.heap[a]? = some (.cells #[.slice none 0 0] 116 (0, 0))) :
    Calls Tryz.prog 48 #[x, pt a, pt (a + 1)] w fun e w' => (∃ v, e = .returned v) ∧ w' = w := by
  have c0 : w.cell? ⟨a, 0, none⟩ = some (.slice none 0 0) := cell_blk ha rfl
  clear ha
  go_enter Tryz.func48, Tryz.ntmps48
  unfold pt
  go_wp2_with fail
  refine wp_loop_rounds 1 ?_
  rw [rounds_succ]
  go_wp2_with fail
  go_end0
  exact ⟨⟨_, rfl⟩, rfl⟩
theorem all1_stops {w : World} {a n₀ n : Nat} (ha : w.heap[a]? = some (.cells #[.slice none 0 0] 116 (0, 0))) :
    SeqStopsK Fence.wide n Tryz.prog 48 #[pt a, pt (a + 1)] (fun x : Empty => x.elim) (Below n₀) (fun ys => ys = []) (fun _ => False) 0 w := fun l J Jx W hW _ _ hY h0 => by
  refine (callsIn_wide.2 (all1_any (x := .func (.yield l) #[] #[]) (keepB hW ha))).mono ?_
  rintro e W' ⟨h1, rfl⟩
  exact ⟨h1, .inl ⟨[], rfl, h0⟩⟩
/-- The blocks of a session that has opened stream 1: n: from where New laid; s: the stream's block; ge: its ticket. -/
structure SO (w : World) (n s ge : Nat) (c : Cf) : Prop where
  ouf : w.heap[n]? = some (.cells #[.int .i64 9223372036854775807, .int .i64 9223372036854775807, .slice none 0 0, .int .i64 0] 168 (0, 0))
  out : w.heap[n + 1]? = some (.cells #[pt n, .int .i64 0] 103 (0, 0))
  box : w.heap[n + 2]? = some (.cells (sx c (pt (n + 4)) (pt (n + 6)) (.map (some (n + 7))) (pt (n + 9)) (pt (n + 14)) (.map (some (n + 15))) (pt (n + 18)) (.map (some (n + 19))) (pt (n + 20)) (pt (n + 1)) false false .nilIface) 57 (0, 0))
  ids : w.heap[n + 4]? = some (.cells #[.int .u64 1, .int .u64 4294967295, .int .u64 1, .int .u64 3, .int .u32 0, .int .u32 0] 109 (0, 0))
  tmp : w.heap[n + 5]? = some (.map #[⟨.int .u32 1, pt s, 0⟩] 1)
  tab : w.heap[n + 6]? = some (.cells #[.int .i64 (2 * c.str), .map (some (n + 5))] 120 (0, 0))
  lnm : w.heap[n + 10]? = some (.map #[⟨kp, pt ge, 0⟩] 1)
  ln : ∃ r cap cur, w.heap[n + 11]? = some (.cells (laneC (.slice (some ⟨r, 0, none⟩) 1 cap) (n + 10) 1) 204 (0, 0)) ∧ w.heap[r]? = some (.cells cur 199 (0, 0)) ∧ cur[0]? = some (pt ge) ∧ 1 ≤ cap ∧ cap ≤ maxLen
  ent : w.heap[ge]? = some (.cells (syn1 false) 209 (0, 0))
  rbm : w.heap[n + 12]? = some (.map #[] 0)
  rb : w.heap[n + 13]? = some (.cells #[.slice none 0 0, .map (some (n + 12))] 223 (0, 0))
  sch : w.heap[n + 14]? = some (.cells #[pt (n + 11), pt (n + 13)] 142 (0, 0))
  rst : w.heap[n + 15]? = some (.map #[] 0)
  str : w.heap[s]? = some (.cells (stc 1 true false c.frm 1 (s + 1) false false (s - 2) (s + 2) false false (s - 1) false false) 126 (0, 0))
  snd : w.heap[s - 2]? = some (.cells #[.int .u32 c.win, .int .u32 c.win, .int .u64 0] 190 (0, 0))
  stg : w.heap[s + 1]? = some (.cells #[.int .i64 c.stg, .slice none 0 0, .int .i64 0, .int .i64 0] 188 (0, 0))
  s0 : n + 23 ≤ s
  e0 : n + 21 ≤ ge
set_option maxRecDepth 100000 in
set_option maxHeartbeats 2000000 in
theorem open_1 {w : World} {n : Nat} {c : Cf} (hc : CfOk c) (hk : c.skp = 0) (h : SN w n c true) (hE : ∀ W, Below n w W → Stt W ∧ Frm W) :
    Calls Tryz.prog 12 #[pt (n + 2)] w fun e w' => e = .returned (.tuple #[.int .u32 1, .nilIface]) ∧ Below n w w' ∧ ∃ s ge, SO w' n s ge c := by
  have H := Lib.hid h
  have HC := Lib.hid hc
  have HE := Lib.hid hE
  have HK := Lib.hid hk
  have c9 : w.cell? ⟨n + 2, 9, none⟩ = some (pt (n + 6)) := cell_blk h.box rfl
  have c18 : w.cell? ⟨n + 2, 19, none⟩ = some (.bool false) := cell_blk h.box rfl
  have hlt : n + 2 < w.heap.size := blk_lt h.box
  have l1 : n + 2 < w.heap.size + 1 := by omega
  have l2 : n + 2 < w.heap.size + 1 + 1 := by omega
  have HO := Lib.hid (over_nil h.box)
  clear h hE hc hk
  unfold pt at c9
  refine (callsIn_wide (n := 10)).1 ?_
  refine callsIn_of_wp_marks Tryz.func12 rfl trivial ?_
  refine wpIn_wide.2 ?_
  simp only [Tryz.ntmps12, List.size_toArray, List.length_cons, List.length_nil, Nat.reduceAdd, Nat.reduceSub, Array.replicate_succ, Array.replicate_zero, List.push_toArray, List.append_toArray, List.nil_append, List.cons_append]
  unfold pt
  go_wp2_with fail
  refine HO.out.mono ?_
  rintro e w ⟨rfl, rfl⟩
  go_wp2_with fail
  obtain ⟨w1, hw1⟩ : ∃ x, x = (w.alloc (.cells #[.int .i64 0] 3)).alloc (.cells #[.int .i64 0] 3) := ⟨_, rfl⟩
  rw [← hw1]
  have hb1 : Below w.heap.size w w1 := by rw [hw1]; exact ((Below.refl _ _).alloc (Nat.le_refl _) _).alloc (by simp) _
  have HB1 := Lib.hid hb1
  have HA := Lib.hid (all_0 (keepB hb1 H.out.tab) (keepB hb1 H.out.tmp))
  have HW1 := Lib.hid hw1
  clear hb1 hw1
  refine HA.out.mono ?_
  rintro e w2 ⟨a, rfl, ha, ha0, ha1, hb2⟩
  have HB2 := Lib.hid (belowT HB1.out hb2)
  have K2 := Lib.hid (And.intro ha (And.intro ha0 (And.intro ha1 hb2)))
  clear ha ha0 ha1 hb2
  go_wp2_with fail
  refine (wpIn_wide (n := 10)).1 ?_
  refine wpIn_rangeFunc_ownF (α := Empty) (F := Fence.wide) (n := 10) rfl (by decide) (gf := 48) (lb := #[pt a, pt (a + 1)]) rfl trivial (enters_of Tryz.func48 (by kernel_rfl) rfl) (all1_stops (n₀ := w2.heap.size) (w := w2) K2.out.2.1) belowK_t (belowK_b (Nat.le_refl _)) (Below.refl _ _) (fun x => x.elim) (fun pre W => Below w2.heap.size w2 W) (fun _ _ _ => False) (ownFrom_below (Nat.le_refl _) (Nat.le_refl _)) (fun _ _ _ _ _ hs _ _ => hs) (Below.refl _ _) (fun x => x.elim) (fun l x => x.elim) (fun l pre x => x.elim) ?done ?stop
  case stop =>
    rintro D c pre W _ _ h _
    exact h.elim
  case done =>
    rintro D ys w3 hD - hb3 hK
    have HB3 := Lib.hid (belowT HB2.out hb3)
    have HD := Lib.hid hD
    have HDK := Lib.hid hK
    clear hD hK
    have h3 := H.out.below HB3.out
    have m1 : w1.heap[w.heap.size]? = some (.cells #[.int .i64 0] 3 (0, 0)) := by rw [HW1.out]; exact alloc_old _ (alloc_is _ rfl)
    have m2 : w1.heap[w.heap.size + 1]? = some (.cells #[.int .i64 0] 3 (0, 0)) := by rw [HW1.out]; exact alloc_is _ (by simp)
    have m3 := keepB hb3 (keepB K2.out.2.2.2 m1)
    have m4 := keepB hb3 (keepB K2.out.2.2.2 m2)
    clear c9 c18 hb3 m1 m2
    have b1 : w3.cell? ⟨w.heap.size, 0, none⟩ = some (.int .i64 0) := cell_blk m3 rfl
    have b2 : w3.cell? ⟨w.heap.size + 1, 0, none⟩ = some (.int .i64 0) := cell_blk m4 rfl
    have s3 : w3.cell? ⟨n + 2, 3, none⟩ = some (.int .i64 c.str) := cell_blk h3.box rfl
    have s4 : w3.cell? ⟨n + 2, 4, none⟩ = some (.int .i64 c.bkl) := cell_blk h3.box rfl
    have d1 : decide (c.str ≤ 0) = false := by have := HC.out.t1; simp; omega
    have d2 : decide (c.bkl ≤ 0) = false := by have := HC.out.b1; simp; omega
    have H3 := Lib.hid h3
    have HN := Lib.hid (fun W (hb : Below w3.heap.size w3 W) => count_0 (w := W) (keepB hb h3.box) (keepB hb h3.rst) 1)
    clear m3 m4 h3
    go_wp2_with fail
    have k1 := cell_regrown b1
    have k2 := cell_regrown b2
    have k3 := cell_regrown s3
    have k4 := cell_regrown s4
    have cN : ∀ d os, Calls Tryz.prog 25 #[.pointer (some ⟨n + 2, 0, none⟩), .int .i64 1] (Go.Sort.grow (redrawn w3 d) os) fun e w'' => e = .returned (.int .i64 0) ∧ ∃ p : Regrown, w'' = Go.Sort.grow (redrawn w3 p.d) p.os := fun d os => Calls.regrown_of (HN.out _ (below_regrown _ _ _))
    have z0 : IntKind.i64.wrap (0 + 0) = 0 := by rw [IntKind.wrap_i64]; omega
    have z1 : IntKind.i64.wrap 0 = 0 := by rw [IntKind.wrap_i64]; omega
    refine wp_region_quiet_below (by kernel_rfl) (by kernel_rfl) ?_
    repeat (quiet_step (with_reducible exact cN _ _))
    refine wpQuiet_nil ?_
    intro _ hw'
    obtain ⟨⟨dq, osq⟩, hw''⟩ := hw'
    subst hw''
    have hb4 : Below w3.heap.size w3 (Go.Sort.grow (redrawn w3 dq) osq) := below_regrown w3 dq osq
    obtain ⟨w4, hw4⟩ : ∃ w4, w4 = Go.Sort.grow (redrawn w3 dq) osq := ⟨_, rfl⟩
    rw [← hw4] at hb4 ⊢
    clear k1 k2 k3 k4 b1 b2 s3 s4 hw4 cN z0 z1 d1 d2
    have HB4 := Lib.hid hb4
    have h4 := H3.out.below hb4
    have c8 : w4.cell? ⟨n + 2, 8, none⟩ = some (.pointer (some ⟨n + 4, 0, none⟩)) := cell_blk h4.box rfl
    have i4 : w4.heap[n + 4]? = some (.cells #[.int .u64 1, .int .u64 4294967295, .int .u64 1, .int .u64 1, .int .u32 0, .int .u32 0] 109 (0, 0)) := by have := h4.ids; rw [HK.out] at this; exact this
    have HI := Lib.hid (ids_next i4 (by omega) (by omega) (by omega))
    have H4 := Lib.hid h4
    clear h4 hb4 i4
    go_wp2_with fail
    refine HI.out.mono ?_
    rintro e w5 ⟨rfl, hc5, hi5⟩
    have hg5 := hc5.at_ H4.out.box (by simp)
    have HC5 := Lib.hid hc5
    have HI5 := Lib.hid hi5
    have hB45 : Below n w4 w5 := hc5.below (by simp) (by have := H4.out.sz; omega)
    have hnw : n ≤ w.heap.size := by have := H.out.sz; omega
    have e0 : w5.cell? ⟨n + 2, 0, none⟩ = some (.int .i64 c.win) := cell_blk hg5 rfl
    have e1 : w5.cell? ⟨n + 2, 1, none⟩ = some (.int .i64 c.stg) := cell_blk hg5 rfl
    have e2 : w5.cell? ⟨n + 2, 2, none⟩ = some (.int .i64 c.frm) := cell_blk hg5 rfl
    have e3 : w5.cell? ⟨n + 2, 3, none⟩ = some (.int .i64 c.str) := cell_blk hg5 rfl
    have e4 : w5.cell? ⟨n + 2, 4, none⟩ = some (.int .i64 c.bkl) := cell_blk hg5 rfl
    have e5 : w5.cell? ⟨n + 2, 5, none⟩ = some (.int .i64 c.pgs) := cell_blk hg5 rfl
    have e6 : w5.cell? ⟨n + 2, 6, none⟩ = some (.int .i64 c.out) := cell_blk hg5 rfl
    have e7 : w5.cell? ⟨n + 2, 7, none⟩ = some (.int .i64 c.skp) := cell_blk hg5 rfl
    have hB05 : Below n w w5 := ((HB3.out.trans (HB4.out.mono HB3.out.size)).mono hnw).trans hB45
    have HB05 := Lib.hid hB05
    have HX := Lib.hid (stream_new HC.out (HE.out w5 hB05).1 1 (by decide))
    clear hc5 hi5 hg5 hB45 hB05 c8
    unfold cfA at HX
    go_wp2_with fail
    refine HX.out.mono ?_
    rintro e w6 ⟨rfl, hb6, hz6, k1, k2, k3, k4, k5⟩
    have g6 := keepB hb6 (HC5.out.at_ H4.out.box (by simp))
    have c9 : w6.cell? ⟨n + 2, 9, none⟩ = some (.pointer (some ⟨n + 6, 0, none⟩)) := cell_blk g6 rfl
    have HP := Lib.hid (tput_1 (s := w5.heap.size + 3) (m := 2 * c.str) (by have := HC.out.t1; omega) (keepB hb6 (HC5.out.at_ H4.out.tab (by simp))) (keepB hb6 (HC5.out.at_ H4.out.tmp (by simp))))
    have K6 := Lib.hid (And.intro hb6 (And.intro hz6 (And.intro k1 (And.intro k2 (And.intro k3 (And.intro k4 k5))))))
    clear e0 e1 e2 e3 e4 e5 e6 e7 hb6 hz6 k1 k2 k3 k4 k5 g6
    unfold pt
    go_wp2_with fail
    refine HP.out.mono ?_
    rintro e w7 ⟨rfl, hc7, hm7⟩
    have g7 := hc7.at_ (keepB K6.out.1 (HC5.out.at_ H4.out.box (by simp))) (by simp)
    have c12 : w7.cell? ⟨n + 2, 12, none⟩ = some (.pointer (some ⟨n + 14, 0, none⟩)) := cell_blk g7 rfl
    have hz4 := H4.out.sz
    have hB57 : Below n w5 w7 := (K6.out.1.mono (by have := HC5.out.size; omega)).trans (hc7.below (by simp) (by have := K6.out.1.size; have := HC5.out.size; omega))
    have HB07 := Lib.hid (HB05.out.trans hB57)
    have HT := Lib.hid (ticket_1 (HE.out w7 HB07.out).2 (hc7.at_ (keepB K6.out.1 (HC5.out.at_ H4.out.sch (by simp))) (by simp)) (hc7.at_ (keepB K6.out.1 (HC5.out.at_ H4.out.ln (by simp))) (by simp)) (hc7.at_ (keepB K6.out.1 (HC5.out.at_ H4.out.lnm (by simp))) (by simp)) (by omega))
    have K7 := Lib.hid (And.intro hc7 hm7)
    clear c9 hc7 hm7 g7 hB57
    unfold tk at HT
    unfold pt at HT
    go_wp2_with fail
    refine HT.out.mono ?_
    rintro e w8 ⟨rfl, hc8, ge, r, cap, cur, q1, q2, q3, q4, q5, q6, q7, q8, q9⟩
    have K8 := Lib.hid (And.intro hc8 (And.intro q1 (And.intro q2 (And.intro q3 (And.intro q4 (And.intro q5 (And.intro q6 (And.intro q7 (And.intro q8 q9)))))))))
    clear hc8 q1 q2 q3 q4 q5 q6 q7 q8 q9 c12
    go_wp2_with fail
    obtain ⟨hc7, hm7⟩ := K7.out
    obtain ⟨hc8, q1, q2, q3, q4, q5, q6, q7, q8, q9⟩ := K8.out
    obtain ⟨hb6, hz6, k1, k2, k3, k4, k5⟩ := K6.out
    have y1 := HB3.out.size
    have y2 := HB4.out.size
    have y3 := HC5.out.size
    have y4 := hc7.size
    have y5 := hc8.size
    have y6 := HB2.out.size
    have yd := HD.out
    have hz := H.out.sz
    have yk : D < w3.heap.size := blk_lt HDK.out
    have d4 := keepB HB4.out HDK.out
    have d5 := HC5.out.at_ d4 (by simp; omega)
    have d6 := keepB hb6 d5
    have d7 := hc7.at_ d6 (by simp; omega)
    have d8 := hc8.at_ d7 (by simp; omega)
    have hfin : Ch [D] w8 (w8.putObj D (.deferred none)) := (Ch.refl _ _).grown (grownBy_putObj' _ _ _) (fun k hk => by injection hk with hk; exact .inl (by simp [hk]))
    refine ⟨by simp, .inl ⟨_, _, rfl, run_takeDeferred d8, ?_⟩⟩
    have tr : ∀ {b : Nat} {o : Obj}, w4.heap[b]? = some o → b < n + 21 → b ≠ n + 4 → b ≠ n + 5 → b ≠ n + 11 → b ≠ n + 10 → (w8.putObj D (.deferred none)).heap[b]? = some o := fun {b o} h g1 g2 g3 g4 g5 => hfin.at_ (hc8.at_ (hc7.at_ (keepB hb6 (HC5.out.at_ h (by simp; omega))) (by simp; omega)) (by simp; omega)) (by simp; omega)
    have t5 : ∀ {b : Nat} {o : Obj}, w6.heap[b]? = some o → w5.heap.size ≤ b → (w8.putObj D (.deferred none)).heap[b]? = some o := fun {b o} h g1 => hfin.at_ (hc8.at_ (hc7.at_ h (by simp; omega)) (by simp; omega)) (by simp; omega)
    have t8 : ∀ {b : Nat} {o : Obj}, w8.heap[b]? = some o → b ≠ D → (w8.putObj D (.deferred none)).heap[b]? = some o := fun {b o} h g1 => hfin.at_ h (by simp; omega)
    have hB08 : Below n w8 (w8.putObj D (.deferred none)) := hfin.below (by simp; omega) (by omega)
    have hB78 : Below n w7 w8 := hc8.below (by simp) (by omega)
    have h4 := H4.out
    refine ⟨_, results_tmp2 rfl _ _ _, rfl, (HB07.out.trans hB78).trans hB08, w5.heap.size + 3, ge, ?_⟩
    refine ⟨tr h4.ouf (by omega) (by omega) (by omega) (by omega) (by omega), tr h4.out (by omega) (by omega) (by omega) (by omega) (by omega), tr h4.box (by omega) (by omega) (by omega) (by omega) (by omega), ?_, ?_, tr h4.tab (by omega) (by omega) (by omega) (by omega) (by omega), ?_, ?_, ?_, tr h4.rbm (by omega) (by omega) (by omega) (by omega) (by omega), tr h4.rb (by omega) (by omega) (by omega) (by omega) (by omega), tr h4.sch (by omega) (by omega) (by omega) (by omega) (by omega), tr h4.rst (by omega) (by omega) (by omega) (by omega) (by omega), ?_, ?_, ?_, by omega, by omega⟩
    · exact t8 (hc8.at_ (hc7.at_ (keepB hb6 HI5.out) (by simp)) (by simp)) (by omega)
    · exact t8 (hc8.at_ hm7 (by simp)) (by omega)
    · exact t8 q8 (by omega)
    · exact ⟨r, cap, cur, t8 q9 (by omega), t8 q6 (by omega), q7, q3, q4⟩
    · exact t8 q5 (by omega)
    · exact t5 k3 (by omega)
    · exact t5 k1 (by omega)
    · exact t5 k4 (by omega)
end Go.Proofs.YtnpmafnhbbaokaaGreatDoor
