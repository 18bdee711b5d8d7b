/-
  TapParses, walked: every line's frame, or its error.
-/
import Derived.Test.YtidmgckmphcegaaGreatDoorTCanon
import Derived.Test.YtidmgckmphcegaaGreatDoorTRPar
import Derived.Test.YtidmgckmphcegaaGreatDoorTRBs
namespace Go.Proofs.YtidmgckmphcegaaGreatDoor
open Go.RowKit Go.Proofs.YtidmgckmphcegaaGreatDoorW.PrintWords Go.Proofs.YtidmgckmphcegaaGreatDoorW.PrintLast Go.Proofs.YtidmgckmphcegaaGreatDoor.Px
set_option linter.unusedVariables false
set_option linter.unusedSimpArgs false
/-- A frame in a box of its own. -/
theorem fbox (w : World) (ver ty fl st ln : Int) (v : Value) : ∃ W, W = w.alloc (.cells #[.int .u8 ver, .int .u8 ty, .int .u16 fl, .int .u32 st, .int .u32 ln, v] 28) ∧ Below w.heap.size w W ∧ W.heap[w.heap.size]? = some (.cells #[.int .u8 ver, .int .u8 ty, .int .u16 fl, .int .u32 st, .int .u32 ln, v] 28 (0, 0)) :=
  ⟨_, rfl, (Below.refl _ _).alloc (Nat.le_refl _) _, alloc_at _ _⟩
set_option maxRecDepth 100000 in
set_option maxHeartbeats 4000000 in
theorem tapParses_walk {sa : Nat → Addr} {w : World} (hE : TE sa w) (s : ByteArray) (hs : s.size ≤ 1048576) :
    Calls Tryz.prog 4 #[.string s] w fun e w' => e = .returned (.bool true) ∧ Below w.heap.size w w' := by
  have HE := Lib.hid hE
  have HS := Lib.hid hs
  clear hE hs
  go_enter Tryz.func4, Tryz.ntmps4
  go_wp2_with fail
  refine (wakes_any HE.out).mono ?_
  rintro e w1 ⟨rfl, hb1⟩
  have HB1 := Lib.hid hb1
  clear hb1
  go_wp2_with fail
  refine (rparse_any s (by have := HS.out; omega) w1).mono ?_
  rintro e w2 ⟨hb2, he2⟩
  rw [parse_eq] at he2
  have HB2 := Lib.hid (belowT HB1.out hb2)
  clear hb2
  cases hg : gparse s.data.toList with
  | error c =>
    rw [hg] at he2
    obtain rfl := he2
    have hc := gparse_err hg
    have HGP := Lib.hid hg
    clear hg
    go_wp2_with fail
    obtain ⟨w3, hw3, hb3, hx3⟩ := fbox w2 0 0 0 0 0 (.slice none 0 0)
    rw [← hw3]
    have HB3 := Lib.hid (belowT HB2.out hb3)
    have HX3 := Lib.hid hx3
    clear hw3 hb3 hx3
    refine (tparse (HE.out.below HB3.out) s (by have := HS.out; omega)).mono ?_
    intro e w4 hp4
    obtain ⟨rfl, hb4⟩ := hp4.err HGP.out
    have HB4 := Lib.hid (belowT HB3.out hb4)
    have HX4 := Lib.hid (keepB hb4 HX3.out)
    clear hp4 hb4 HX3
    obtain ⟨w5, hw5, hb5, hx5⟩ := fbox w4 0 0 0 0 0 (.slice none 0 0)
    obtain ⟨a0, a1, a2, a3, a4, a5⟩ := FB.of_blk hx5
    obtain ⟨b0, b1, b2, b3, b4, b5⟩ := FB.of_blk ((hb5.block _ (Array.getElem?_eq_some_iff.1 HX4.out).1).trans HX4.out)
    rw [hw5] at a0 a1 a2 a3 a4 a5 b0 b1 b2 b3 b4 b5
    have HB5 := Lib.hid (belowT HB4.out hb5)
    have HW5 := Lib.hid hw5
    clear hw5 hb5 hx5
    go_wp2_with fail
    rw [← HW5.out]
    refine (same04 0 0 0 0 0 0 0 0 0 0 (bs_nil w5) (bs_nil w5)).mono ?_
    rintro e w6 ⟨bb, rfl, hbb, hb6⟩
    obtain rfl : bb = true := hbb.2 ⟨rfl, rfl⟩
    have HB6 := Lib.hid (belowT HB5.out hb6)
    clear hbb hb6 a0 a1 a2 a3 a4 a5 b0 b1 b2 b3 b4 b5
    go_wp2_with fail
    refine (code_any (sa := sa) (w := w6) (c := c) (s := 0) (v := sv (sa c)) (HE.out.below HB6.out).good (EV_c hc)).mono ?_
    rintro e w7 ⟨rfl, rfl⟩
    go_wp2_with fail
    go_ret
    exact ⟨rfl, HB6.out⟩
  | ok x =>
    obtain ⟨h, d⟩ := x
    rw [hg] at he2
    obtain ⟨A2, c2, rfl, hR2⟩ := he2
    have HGP := Lib.hid hg
    have HQ2 := Lib.hid (R_bs hR2 (gparse_ok hg).2.1)
    clear hg hR2
    go_wp2_with fail
    obtain ⟨w3, hw3, hb3, hx3⟩ := fbox w2 h.ver h.ty h.fl h.st h.ln (.slice A2 d.length c2)
    rw [← hw3]
    have HB3 := Lib.hid (belowT HB2.out hb3)
    have HX3 := Lib.hid hx3
    have HQ3 := Lib.hid (HQ2.out.next hb3)
    clear hw3 hb3 hx3
    refine (tparse (HE.out.below HB3.out) s (by have := HS.out; omega)).mono ?_
    intro e w4 hp4
    obtain ⟨A4, c4, rfl, hq4, hb4⟩ := hp4.ok HGP.out
    have HB4 := Lib.hid (belowT HB3.out hb4)
    have HX4 := Lib.hid (keepB hb4 HX3.out)
    have HQ3' := Lib.hid (HQ3.out.next hb4)
    clear hp4 hb4 HX3
    obtain ⟨w5, hw5, hb5, hx5⟩ := fbox w4 h.ver h.ty h.fl h.st h.ln (.slice A4 d.length c4)
    obtain ⟨a0, a1, a2, a3, a4, a5⟩ := FB.of_blk hx5
    obtain ⟨b0, b1, b2, b3, b4, b5⟩ := FB.of_blk ((hb5.block _ (Array.getElem?_eq_some_iff.1 HX4.out).1).trans HX4.out)
    rw [hw5] at a0 a1 a2 a3 a4 a5 b0 b1 b2 b3 b4 b5
    have HB5 := Lib.hid (belowT HB4.out hb5)
    have HQ5 := Lib.hid (hq4.next hb5)
    have HQ5' := Lib.hid (HQ3'.out.next hb5)
    have HW5 := Lib.hid hw5
    clear hw5 hb5 hx5 hq4
    go_wp2_with fail
    rw [← HW5.out]
    refine (same04 h.ver h.ty h.fl h.st h.ln h.ver h.ty h.fl h.st h.ln HQ5.out HQ5'.out).mono ?_
    rintro e w6 ⟨bb, rfl, hbb, hb6⟩
    obtain rfl : bb = true := hbb.2 ⟨rfl, rfl⟩
    have HB6 := Lib.hid (belowT HB5.out hb6)
    clear hbb hb6 a0 a1 a2 a3 a4 a5 b0 b1 b2 b3 b4 b5
    go_wp2_with fail
    refine (code_any (sa := sa) (w := w6) (c := 0) (s := 0) (v := .nilIface) (HE.out.below HB6.out).good (.inl ⟨rfl, rfl⟩)).mono ?_
    rintro e w7 ⟨rfl, rfl⟩
    go_wp2_with fail
    go_ret
    exact ⟨rfl, HB6.out⟩
end Go.Proofs.YtidmgckmphcegaaGreatDoor
