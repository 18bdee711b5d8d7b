/-
  SessionChecks: its walk.
-/
import Derived.Test.YtnpmafnhbbaokaaGreatDoorAwake18
import Derived.Test.YtnpmafnhbbaokaaGreatDoorSCaps
import Derived.Test.YtnpmafnhbbaokaaGreatDoorCode
import Derived.Lib.QuietBelow
namespace Go.Proofs.YtnpmafnhbbaokaaGreatDoor
open Go Go.RowKit
set_option linter.unusedVariables false
set_option linter.unusedSimpArgs false
set_option maxRecDepth 100000 in
set_option maxHeartbeats 4000000 in
theorem sessionChecks_walk {sa : Nat → Addr} {w : World} (hG : Good w sa) (hP : Par w) (hS : Stt w) (hF : Frm w) (c : Cf) :
    Calls Tryz.prog 3 #[.agg (cfA c)] w fun e w' => e = .returned (.bool true) ∧ Below w.heap.size w w' := by
  obtain ⟨w0, hw0⟩ : ∃ w0, w0 = w.alloc (cfO c) := ⟨_, rfl⟩
  have hb0 : Below w.heap.size w w0 := by rw [hw0]; exact (Below.refl _ _).alloc (Nat.le_refl _) _
  have hq0 : w0.heap[w.heap.size]? = some (.cells (cfA c) 23 (0, 0)) := by rw [hw0]; exact alloc_is _ rfl
  have hx : w.cell? ⟨3, 0, none⟩ = some (sv (sa 2)) := (hG.at_ 2 (by omega) (by omega)).glob
  have HAW := Lib.hid (awake_18 (hG.below hb0) (keepA hb0 hx) (hP.below hb0) (show w0.cell? _ = _ from keepA hb0 hS) (hF.below hb0))
  have H := Lib.hid (And.intro hG hP)
  have HW := Lib.hid hw0
  have HB0 := Lib.hid (And.intro hb0 hq0)
  clear hG hP hS hF hx hb0 hq0 hw0
  unfold cfO at HW
  go_enter Tryz.func3, Tryz.ntmps3
  unfold cfA
  go_upto_region 1 with fail
  rw [← HW.out]
  go_wp2_with fail
  refine HAW.out.mono ?_
  rintro e w1 ⟨rfl, hb1⟩
  have HB1 := Lib.hid (belowT HB0.out.1 hb1)
  have HQ1 := Lib.hid (keepB hb1 HB0.out.2)
  clear hb1 HAW
  go_wp2_with fail
  refine (small_18 (w := w1)).mono ?_
  rintro e w2 ⟨rfl, hb2⟩
  have HB2 := Lib.hid (belowT HB1.out hb2)
  have HQ2 := Lib.hid (keepB hb2 HQ1.out)
  clear hb2
  have HCK := Lib.hid (scheck_any (H.out.1.below HB2.out) cfS)
  go_wp2_with fail
  refine HCK.out.mono ?_
  rintro e w3 ⟨hh, hb3⟩
  obtain ⟨_, rfl⟩ | ⟨hno, _⟩ := hh
  case inr => exact absurd cfS_ok hno
  have HB3 := Lib.hid (belowT HB2.out hb3)
  have HQ3 := Lib.hid (keepB hb3 HQ2.out)
  clear hb3 HCK
  have hq := HQ3.out
  have c0 : w3.cell? ⟨w.heap.size, 0, none⟩ = some (.int .i64 c.win) := cell_blk hq rfl
  have c1 : w3.cell? ⟨w.heap.size, 1, none⟩ = some (.int .i64 c.stg) := cell_blk hq rfl
  have c2 : w3.cell? ⟨w.heap.size, 2, none⟩ = some (.int .i64 c.frm) := cell_blk hq rfl
  have c3 : w3.cell? ⟨w.heap.size, 3, none⟩ = some (.int .i64 c.str) := cell_blk hq rfl
  have c4 : w3.cell? ⟨w.heap.size, 4, none⟩ = some (.int .i64 c.bkl) := cell_blk hq rfl
  have c5 : w3.cell? ⟨w.heap.size, 5, none⟩ = some (.int .i64 c.pgs) := cell_blk hq rfl
  have c6 : w3.cell? ⟨w.heap.size, 6, none⟩ = some (.int .i64 c.out) := cell_blk hq rfl
  have c7 : w3.cell? ⟨w.heap.size, 7, none⟩ = some (.int .i64 c.skp) := cell_blk hq rfl
  clear hq
  have HR := Lib.hid (rcheck_any (w := w3) c)
  unfold cfA at HR
  go_wp2_with fail
  refine HR.out.mono ?_
  rintro e w4 ⟨b, rfl, hiff, hb4⟩
  have HB4 := Lib.hid (belowT HB3.out hb4)
  have HQ4 := Lib.hid (keepB hb4 HQ3.out)
  have HI := Lib.hid hiff
  clear hb4 hiff c0 c1 c2 c3 c4 c5 c6 c7
  have hq := HQ4.out
  have c0 : w4.cell? ⟨w.heap.size, 0, none⟩ = some (.int .i64 c.win) := cell_blk hq rfl
  have c1 : w4.cell? ⟨w.heap.size, 1, none⟩ = some (.int .i64 c.stg) := cell_blk hq rfl
  have c2 : w4.cell? ⟨w.heap.size, 2, none⟩ = some (.int .i64 c.frm) := cell_blk hq rfl
  have c3 : w4.cell? ⟨w.heap.size, 3, none⟩ = some (.int .i64 c.str) := cell_blk hq rfl
  have c4 : w4.cell? ⟨w.heap.size, 4, none⟩ = some (.int .i64 c.bkl) := cell_blk hq rfl
  have c5 : w4.cell? ⟨w.heap.size, 5, none⟩ = some (.int .i64 c.pgs) := cell_blk hq rfl
  have c6 : w4.cell? ⟨w.heap.size, 6, none⟩ = some (.int .i64 c.out) := cell_blk hq rfl
  have c7 : w4.cell? ⟨w.heap.size, 7, none⟩ = some (.int .i64 c.skp) := cell_blk hq rfl
  clear hq
  have HN := Lib.hid (snew_any (H.out.1.below HB4.out) (H.out.2.below HB4.out) c true)
  unfold cfA at HN
  cases b
  · have HOK := Lib.hid (show ¬ CfOk c from fun h => by have := HI.out.2 h; cases this)
    go_wp2_with fail
    refine HN.out.mono ?_
    rintro e v4 ⟨hh, hb⟩
    obtain ⟨_, rfl⟩ | ⟨hno, _⟩ := hh
    case inr => exact absurd hno HOK.out
    have HBa := Lib.hid (belowT HB4.out hb)
    have hq := keepB hb HQ4.out
    clear c0 c1 c2 c3 c4 c5 c6 c7 hb
    have c0 : v4.cell? ⟨w.heap.size, 0, none⟩ = some (.int .i64 c.win) := cell_blk hq rfl
    have c1 : v4.cell? ⟨w.heap.size, 1, none⟩ = some (.int .i64 c.stg) := cell_blk hq rfl
    have c2 : v4.cell? ⟨w.heap.size, 2, none⟩ = some (.int .i64 c.frm) := cell_blk hq rfl
    have c3 : v4.cell? ⟨w.heap.size, 3, none⟩ = some (.int .i64 c.str) := cell_blk hq rfl
    have c4 : v4.cell? ⟨w.heap.size, 4, none⟩ = some (.int .i64 c.bkl) := cell_blk hq rfl
    have c5 : v4.cell? ⟨w.heap.size, 5, none⟩ = some (.int .i64 c.pgs) := cell_blk hq rfl
    have c6 : v4.cell? ⟨w.heap.size, 6, none⟩ = some (.int .i64 c.out) := cell_blk hq rfl
    have c7 : v4.cell? ⟨w.heap.size, 7, none⟩ = some (.int .i64 c.skp) := cell_blk hq rfl
    have HQa := Lib.hid hq
    clear hq
    have HN2 := Lib.hid (snew_any (H.out.1.below HBa.out) (H.out.2.below HBa.out) c false)
    unfold cfA at HN2
    go_wp2_with fail
    refine HN2.out.mono ?_
    rintro e w5 ⟨hh, hb⟩
    obtain ⟨_, rfl⟩ | ⟨hno, _⟩ := hh
    case inr => exact absurd hno HOK.out
    have HB5 := Lib.hid (belowT HBa.out hb)
    have hq := keepB hb HQa.out
    clear c0 c1 c2 c3 c4 c5 c6 c7 hb
    have c0 : w5.cell? ⟨w.heap.size, 0, none⟩ = some (.int .i64 c.win) := cell_blk hq rfl
    have c1 : w5.cell? ⟨w.heap.size, 1, none⟩ = some (.int .i64 c.stg) := cell_blk hq rfl
    have c2 : w5.cell? ⟨w.heap.size, 2, none⟩ = some (.int .i64 c.frm) := cell_blk hq rfl
    have c3 : w5.cell? ⟨w.heap.size, 3, none⟩ = some (.int .i64 c.str) := cell_blk hq rfl
    have c4 : w5.cell? ⟨w.heap.size, 4, none⟩ = some (.int .i64 c.bkl) := cell_blk hq rfl
    have c5 : w5.cell? ⟨w.heap.size, 5, none⟩ = some (.int .i64 c.pgs) := cell_blk hq rfl
    have c6 : w5.cell? ⟨w.heap.size, 6, none⟩ = some (.int .i64 c.out) := cell_blk hq rfl
    have c7 : w5.cell? ⟨w.heap.size, 7, none⟩ = some (.int .i64 c.skp) := cell_blk hq rfl
    clear hq
    have H5 := Lib.hid (And.intro (H.out.1.below HB5.out) trivial)
    go_upto_region 8 with fail
    have cK : ∀ d os, Calls Tryz.prog 5 #[.agg (cfA c)] (Go.Sort.grow (redrawn w5 d) os) fun e w'' => e = .returned (sv (sa 10)) ∧ ∃ p : Regrown, w'' = Go.Sort.grow (redrawn w5 p.d) p.os := fun d os => Calls.regrown_of ((scheck_any (H5.out.1.below (below_regrown w5 d os)) c).mono fun e w' ⟨hh, hb⟩ => ⟨hh.elim (fun h => absurd h.1 HOK.out) (fun h => h.2), hb⟩)
    have cN : ∀ d os, Calls Tryz.prog 9 #[sv (sa 10)] (Go.Sort.grow (redrawn w5 d) os) fun e w'' => e = .returned (.int .i64 10) ∧ ∃ p : Regrown, w'' = Go.Sort.grow (redrawn w5 p.d) p.os := fun d os => Calls.regrown_of ((code_any (c := 10) (s := 0) (H5.out.1.below (below_regrown w5 d os)) (.inr (.inl ⟨by decide, by decide, rfl⟩))).mono fun e w' ⟨hh, hb⟩ => ⟨hh, by rw [hb]; exact Below.refl _ _⟩)
    have cC : ∀ d os, Calls Tryz.prog 10 #[.agg (cfA c)] (Go.Sort.grow (redrawn w5 d) os) fun e w'' => e = .returned (.int .i64 0) ∧ ∃ p : Regrown, w'' = Go.Sort.grow (redrawn w5 p.d) p.os := fun d os => Calls.regrown_of ((scap_any (H5.out.1.below (below_regrown w5 d os)) c).mono fun e w' ⟨hh, hb⟩ => ⟨hh.elim (fun h => absurd h.1 HOK.out) (fun h => h.2), hb⟩)
    have cR : ∀ d os, Calls Tryz.prog 11 #[.agg (cfA c)] (Go.Sort.grow (redrawn w5 d) os) fun e w'' => e = .returned (.int .i64 0) ∧ ∃ p : Regrown, w'' = Go.Sort.grow (redrawn w5 p.d) p.os := fun d os => Calls.regrown_of ((rfcap_any c).mono fun e w' ⟨hh, hb⟩ => ⟨hh.elim (fun h => absurd h.1 HOK.out) (fun h => h.2), hb⟩)
    have k0 := cell_regrown c0
    have k1 := cell_regrown c1
    have k2 := cell_regrown c2
    have k3 := cell_regrown c3
    have k4 := cell_regrown c4
    have k5 := cell_regrown c5
    have k6 := cell_regrown c6
    have k7 := cell_regrown c7
    clear c0 c1 c2 c3 c4 c5 c6 c7
    refine wp_region_quiet_below (by kernel_rfl) (by kernel_rfl) ?_
    unfold cfA at cK cC cR
    repeat (quiet_step (first | (with_reducible exact cK _ _) | (with_reducible exact cN _ _) | (with_reducible exact cC _ _) | (with_reducible exact cR _ _)))
    refine wpQuiet_nil ?_
    intro _ hw'
    obtain ⟨⟨dq, osq⟩, hw''⟩ := hw'
    have hb6 : Below w5.heap.size w5 (Go.Sort.grow (redrawn w5 dq) osq) := below_regrown w5 dq osq
    rw [← hw''] at hb6
    have HB6 := Lib.hid (belowT HB5.out hb6)
    clear hw'' cK cN cC cR hb6 k0 k1 k2 k3 k4 k5 k6 k7
    go_wp2_with fail
    go_ret
    exact ⟨rfl, HB6.out⟩
  · have HOK := Lib.hid (HI.out.1 rfl)
    go_wp2_with fail
    refine HN.out.mono ?_
    rintro e v4 ⟨hh, hb⟩
    obtain ⟨hno, _⟩ | ⟨_, n1, rfl, _, _⟩ := hh
    · exact absurd HOK.out hno
    have HBa := Lib.hid (belowT HB4.out hb)
    have hq := keepB hb HQ4.out
    clear c0 c1 c2 c3 c4 c5 c6 c7 hb
    have c0 : v4.cell? ⟨w.heap.size, 0, none⟩ = some (.int .i64 c.win) := cell_blk hq rfl
    have c1 : v4.cell? ⟨w.heap.size, 1, none⟩ = some (.int .i64 c.stg) := cell_blk hq rfl
    have c2 : v4.cell? ⟨w.heap.size, 2, none⟩ = some (.int .i64 c.frm) := cell_blk hq rfl
    have c3 : v4.cell? ⟨w.heap.size, 3, none⟩ = some (.int .i64 c.str) := cell_blk hq rfl
    have c4 : v4.cell? ⟨w.heap.size, 4, none⟩ = some (.int .i64 c.bkl) := cell_blk hq rfl
    have c5 : v4.cell? ⟨w.heap.size, 5, none⟩ = some (.int .i64 c.pgs) := cell_blk hq rfl
    have c6 : v4.cell? ⟨w.heap.size, 6, none⟩ = some (.int .i64 c.out) := cell_blk hq rfl
    have c7 : v4.cell? ⟨w.heap.size, 7, none⟩ = some (.int .i64 c.skp) := cell_blk hq rfl
    have HQa := Lib.hid hq
    clear hq
    have HN2 := Lib.hid (snew_any (H.out.1.below HBa.out) (H.out.2.below HBa.out) c false)
    unfold cfA at HN2
    unfold pt
    go_wp2_with fail
    refine HN2.out.mono ?_
    rintro e w5 ⟨hh, hb⟩
    obtain ⟨hno, _⟩ | ⟨_, n2, rfl, _, _⟩ := hh
    · exact absurd HOK.out hno
    have HB5 := Lib.hid (belowT HBa.out hb)
    have hq := keepB hb HQa.out
    clear c0 c1 c2 c3 c4 c5 c6 c7 hb
    have c0 : w5.cell? ⟨w.heap.size, 0, none⟩ = some (.int .i64 c.win) := cell_blk hq rfl
    have c1 : w5.cell? ⟨w.heap.size, 1, none⟩ = some (.int .i64 c.stg) := cell_blk hq rfl
    have c2 : w5.cell? ⟨w.heap.size, 2, none⟩ = some (.int .i64 c.frm) := cell_blk hq rfl
    have c3 : w5.cell? ⟨w.heap.size, 3, none⟩ = some (.int .i64 c.str) := cell_blk hq rfl
    have c4 : w5.cell? ⟨w.heap.size, 4, none⟩ = some (.int .i64 c.bkl) := cell_blk hq rfl
    have c5 : w5.cell? ⟨w.heap.size, 5, none⟩ = some (.int .i64 c.pgs) := cell_blk hq rfl
    have c6 : w5.cell? ⟨w.heap.size, 6, none⟩ = some (.int .i64 c.out) := cell_blk hq rfl
    have c7 : w5.cell? ⟨w.heap.size, 7, none⟩ = some (.int .i64 c.skp) := cell_blk hq rfl
    clear hq
    have H5 := Lib.hid (And.intro (H.out.1.below HB5.out) trivial)
    unfold pt
    go_upto_region 8 with fail
    have cK : ∀ d os, Calls Tryz.prog 5 #[.agg (cfA c)] (Go.Sort.grow (redrawn w5 d) os) fun e w'' => e = .returned .nilIface ∧ ∃ p : Regrown, w'' = Go.Sort.grow (redrawn w5 p.d) p.os := fun d os => Calls.regrown_of ((scheck_any (H5.out.1.below (below_regrown w5 d os)) c).mono fun e w' ⟨hh, hb⟩ => ⟨hh.elim (fun h => h.2) (fun h => absurd HOK.out h.1), hb⟩)
    have cN : ∀ d os, Calls Tryz.prog 9 #[.nilIface] (Go.Sort.grow (redrawn w5 d) os) fun e w'' => e = .returned (.int .i64 0) ∧ ∃ p : Regrown, w'' = Go.Sort.grow (redrawn w5 p.d) p.os := fun d os => Calls.regrown_of ((code_nil _).mono fun e w' ⟨hh, hb⟩ => ⟨hh, by rw [hb]; exact Below.refl _ _⟩)
    have cC : ∀ d os, Calls Tryz.prog 10 #[.agg (cfA c)] (Go.Sort.grow (redrawn w5 d) os) fun e w'' => e = .returned (.int .i64 (capW c)) ∧ ∃ p : Regrown, w'' = Go.Sort.grow (redrawn w5 p.d) p.os := fun d os => Calls.regrown_of ((scap_any (H5.out.1.below (below_regrown w5 d os)) c).mono fun e w' ⟨hh, hb⟩ => ⟨hh.elim (fun h => h.2) (fun h => absurd HOK.out h.1), hb⟩)
    have cR : ∀ d os, Calls Tryz.prog 11 #[.agg (cfA c)] (Go.Sort.grow (redrawn w5 d) os) fun e w'' => e = .returned (.int .i64 (capW c)) ∧ ∃ p : Regrown, w'' = Go.Sort.grow (redrawn w5 p.d) p.os := fun d os => Calls.regrown_of ((rfcap_any c).mono fun e w' ⟨hh, hb⟩ => ⟨hh.elim (fun h => h.2) (fun h => absurd HOK.out h.1), hb⟩)
    have k0 := cell_regrown c0
    have k1 := cell_regrown c1
    have k2 := cell_regrown c2
    have k3 := cell_regrown c3
    have k4 := cell_regrown c4
    have k5 := cell_regrown c5
    have k6 := cell_regrown c6
    have k7 := cell_regrown c7
    clear c0 c1 c2 c3 c4 c5 c6 c7
    refine wp_region_quiet_below (by kernel_rfl) (by kernel_rfl) ?_
    unfold cfA at cK cC cR
    repeat (quiet_step (first | (with_reducible exact cK _ _) | (with_reducible exact cN _ _) | (with_reducible exact cC _ _) | (with_reducible exact cR _ _)))
    refine wpQuiet_nil ?_
    intro _ hw'
    obtain ⟨⟨dq, osq⟩, hw''⟩ := hw'
    have hb6 : Below w5.heap.size w5 (Go.Sort.grow (redrawn w5 dq) osq) := below_regrown w5 dq osq
    rw [← hw''] at hb6
    have HB6 := Lib.hid (belowT HB5.out hb6)
    clear hw'' cK cN cC cR hb6 k0 k1 k2 k3 k4 k5 k6 k7
    go_wp2_with fail
    go_ret
    exact ⟨rfl, HB6.out⟩
end Go.Proofs.YtnpmafnhbbaokaaGreatDoor
