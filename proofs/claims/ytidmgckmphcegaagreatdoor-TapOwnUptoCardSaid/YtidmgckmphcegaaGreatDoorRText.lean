/-
 The reference's Text.
-/
import Derived.Test.YtidmgckmphcegaaGreatDoorPText
import Derived.Lib.QuietBelow
namespace Go.Proofs.YtidmgckmphcegaaGreatDoor
open Go.RowKit
set_option linter.unusedVariables false
set_option linter.unusedSimpArgs false
set_option maxRecDepth 100000 in
set_option maxHeartbeats 1000000 in
theorem rtext_any (ver ty fl st ln : Nat) (w : World) (hver : ver ≤ 255) (hty : ty ≤ 255) (hfl : fl ≤ 65535) (hst : st ≤ 4294967295) (hln : ln ≤ 4294967295) :
    Calls Tryz.prog 45 #[hdr ver ty fl st ln] w fun e w' => e = .returned (.string ⟨(textB ver ty fl st ln).toArray⟩) ∧ Below w.heap.size w w' := by
 have HR0 : Hid (Rt w (w.alloc (.cells #[.int .u8 ver, .int .u8 ty, .int .u16 fl, .int .u32 st, .int .u32 ln] 25)) ver ty fl st ln) := ⟨alloc_at _ _, (Below.refl _ _).alloc (Nat.le_refl _) _⟩
 go_enter Tryz.func45, Tryz.ntmps45
 go_wp2_with fail
 refine (rkind_any ty hty _).mono ?_
 rintro e w1 ⟨rfl, hb1⟩
 have HR1 := Lib.hid (HR0.out.next hb1)
 clear hb1 HR0
 have e0 : w1.cell? ⟨w.heap.size, 0, none⟩ = some (.int .u8 ver) := cell_blk HR1.out.box rfl
 have hk := rkind_size ty hty
 go_upto_if 9 with fail
 go_cut [3] (fun s wx => s = .string (rver ty ver) ∧ Hid (Rt w wx ver ty fl st ln))
 case first =>
  by_cases hv : ver = 0
  · subst hv
    go_wp2_with fail
    go_meet
    exact ⟨by rw [rver, if_pos rfl], HR1.out⟩
  · have hd : (dec ver).size ≤ 20 := dec_sml ver (by omega)
    go_wp2_with fail
    refine (rdigits ver (by omega) _).mono ?_
    rintro e w2 ⟨rfl, hb2⟩
    have HR2 := Lib.hid (HR1.out.next hb2)
    clear hb2
    go_wp2_with fail
    go_meet
    exact ⟨by rw [rver, if_neg hv], HR2.out⟩
 case rest =>
 obtain ⟨rfl, HR2⟩ := hcut
 clear HR1 e0 hk
 rename World => w2
 have e2 : w2.cell? ⟨w.heap.size, 2, none⟩ = some (.int .u16 fl) := cell_blk HR2.out.box rfl
 have hk := rver_size ty ver hty hver
 have a1 := rfl1_size fl 1 ⟨#[115, 121, 110]⟩ (by decide)
 have a2 := rfl1_size fl 2 ⟨#[97, 99, 107]⟩ (by decide)
 have a3 := rfl1_size fl 4 ⟨#[102, 105, 110]⟩ (by decide)
 have a4 := rfl1_size fl 8 ⟨#[114, 115, 116]⟩ (by decide)
 go_wp2_with fail
 go_quiet ((go_at_call 84; exact Calls.quiet_of_same (rflag_any fl _ _ (by decide) _)))
 have HR3 := Lib.hid (HR2.out.next (show Below w2.heap.size w2 (w2.drewN nq) from ⟨rfl, rfl, rfl, Nat.le_refl _, fun _ _ => rfl⟩))
 have hk3 := rfls_size ty ver fl hty hver
 obtain ⟨sf, hsf⟩ : ∃ sf, sf = rver ty ver ++ rfl1 fl 1 ⟨#[115, 121, 110]⟩ ++ rfl1 fl 2 ⟨#[97, 99, 107]⟩ ++ rfl1 fl 4 ⟨#[102, 105, 110]⟩ ++ rfl1 fl 8 ⟨#[114, 115, 116]⟩ := ⟨_, rfl⟩
 rw [← hsf]
 have HF : Hid (sf = rfls ty ver fl) := hsf
 have hk4 : sf.size ≤ 150 := by rw [HF.out]; exact hk3
 clear hsf hk3 a1 a2 a3 a4 hk
 go_upto_if 36 with fail
 go_cut [3] (fun s wx => s = .string (rrest ty ver fl) ∧ Hid (Rt w wx ver ty fl st ln))
 case first =>
  by_cases h15 : fl ≤ 15
  · go_wp2_with fail
    go_meet
    exact ⟨by rw [rrest, if_pos h15, HF.out], HR3.out⟩
  · have hd : (dec (fl / 16 * 16)).size ≤ 20 := dec_sml _ (by omega)
    go_wp2_with fail
    refine (rdigits (fl / 16 * 16) (by omega) _).mono ?_
    rintro e w4 ⟨rfl, hb4⟩
    have HR4 := Lib.hid (HR3.out.next hb4)
    clear hb4
    go_wp2_with fail
    go_meet
    exact ⟨by rw [rrest, if_neg h15, HF.out], HR4.out⟩
 case rest =>
 obtain ⟨rfl, HR4⟩ := hcut
 clear HR3 HR2 e2 HF hk4
 rename World => w4
 have hk4 := rrest_size ty ver fl hty hver hfl
 have hd1 : (dec st).size ≤ 20 := dec_sml st (by omega)
 have hd2 : (dec ln).size ≤ 20 := dec_sml ln (by omega)
 have e3 : w4.cell? ⟨w.heap.size, 3, none⟩ = some (.int .u32 st) := cell_blk HR4.out.box rfl
 have e4 : w4.cell? ⟨w.heap.size, 4, none⟩ = some (.int .u32 ln) := cell_blk HR4.out.box rfl
 go_wp2_with fail
 have k3 := cell_regrown e3
 have k4 := cell_regrown e4
 have cS : ∀ d os, Calls Tryz.prog 83 #[.int .i64 st] (Go.Sort.grow (redrawn w4 d) os) fun e w'' => e = .returned (.string (dec st)) ∧ ∃ p : Regrown, w'' = Go.Sort.grow (redrawn w4 p.d) p.os := fun d os => Calls.regrown_of (rdigits st (by omega) _)
 have cL : ∀ d os, Calls Tryz.prog 83 #[.int .i64 ln] (Go.Sort.grow (redrawn w4 d) os) fun e w'' => e = .returned (.string (dec ln)) ∧ ∃ p : Regrown, w'' = Go.Sort.grow (redrawn w4 p.d) p.os := fun d os => Calls.regrown_of (rdigits ln (by omega) _)
 have v1 : IntKind.i64.wrap (st : Int) = st := by rw [IntKind.wrap_i64]; omega
 have v2 : IntKind.i64.wrap (ln : Int) = ln := by rw [IntKind.wrap_i64]; omega
 have n1 : ¬ 9223372036854775807 < (rrest ty ver fl).size + 8 := by omega
 have n2 : ¬ 9223372036854775807 < (rrest ty ver fl).size + 8 + (dec st).size := by omega
 have n3 : ¬ 9223372036854775807 < (rrest ty ver fl).size + 8 + (dec st).size + 8 := by omega
 have n4 : ¬ 9223372036854775807 < (rrest ty ver fl).size + 8 + (dec st).size + 8 + (dec ln).size := by omega
 refine wp_region_quiet_below (by kernel_rfl) (by kernel_rfl) ?_
 repeat (quiet_step (first | (with_reducible exact cS _ _) | (with_reducible exact cL _ _)))
 refine wpQuiet_nil ?_
 intro _ hw'
 obtain ⟨⟨dq, osq⟩, hw''⟩ := hw'
 subst hw''
 have HR5 := Lib.hid (HR4.out.next (below_regrown w4 dq osq))
 go_wp2_with fail
 go_ret
 refine ⟨?_, HR5.out.bel⟩
 rw [← rall_eq ver ty fl st ln hfl]
 rfl
end Go.Proofs.YtidmgckmphcegaaGreatDoor
