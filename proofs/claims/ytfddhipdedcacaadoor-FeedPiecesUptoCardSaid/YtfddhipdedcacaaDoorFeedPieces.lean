/-
  FeedPieces, walked.
-/
import Derived.Test.YtfddhipdedcacaaDoorMD
namespace Go.Proofs.YtfddhipdedcacaaDoor
open Go.RowKit Go.Proofs.YtfddhipdedcacaaDoorW.PrintWords Go.Proofs.YtfddhipdedcacaaDoorW.PrintLast Go.Proofs.YtfddhipdedcacaaDoorW.PrintMore Go.Proofs.YtfddhipdedcacaaDoor.PFeedPieces
set_option linter.unusedVariables false
set_option linter.unusedSimpArgs false
theorem Given.F {sa : Nat → Addr} {w w' w2 : World} {most : Int} {xs : List Int} {A : Option Addr} {n c b : Nat} {v : Value} (h : Given sa w w' most xs (.slice A n c) v b) (hb : Below w'.heap.size w' w2) : Kd.F kFr w2 (fun k => k < w2.heap.size) A n (framesX most xs) :=
  Kd.F_mono (Kd.F_bound (Kd.F_below (Kd.N_F h.frames) hb)) fun k hk => hk.2
theorem Given.form {sa : Nat → Addr} {w w' : World} {most : Int} {xs : List Int} {fv : Value} {b : Nat} {v : Value} (h : Given sa w w' most xs fv v b) : ∃ A c, fv = .slice A (framesX most xs).length c := by
  obtain ⟨A, c, rfl, _⟩ := Kd.N_reads h.frames
  exact ⟨A, c, rfl⟩
set_option maxRecDepth 100000 in
set_option maxHeartbeats 4000000 in
theorem feedPieces_walk {sa : Nat → Addr} {w : World} (hG : Good w sa) (hL : Lawful w) (hT : ErT w) (most : Int) (A : Option Addr) (n c : Nat) (xs : List Int) (hB : Bs w A n c xs) (C : Option Addr) (m d : Nat) (zs : List Int) (D : Option Addr) (l e : Nat) (us : List Int) (hZ : Is w C m d zs) (hU : Is w D l e us) (hn : n ≤ 1000000000) (hm : m ≤ 1000000000) (hl : l ≤ 1000000000) :
    Calls Tryd.prog 10 #[.int .i64 most, .slice A n c, .agg #[.slice C m d, .slice D l e]] w fun e w' => e = .returned (.bool true) ∧ Below w.heap.size w w' := by
  obtain ⟨w0, hw0⟩ : ∃ w0, w0 = w.alloc (.cells #[.slice C m d, .slice D l e] 71) := ⟨_, rfl⟩
  have hbx : Below w.heap.size w w0 := by rw [hw0]; exact (Below.refl _ _).alloc (Nat.le_refl _) _
  have hc0 : w0.heap[w.heap.size]? = some (.cells #[.slice C m d, .slice D l e] 71 (0, 0)) := by rw [hw0, alloc_at]
  have HBX := Lib.hid hbx
  have HC := Lib.hid (show Up w0 (fun W => W.cell? ⟨w.heap.size, 0, none⟩ = some (.slice C m d) ∧ W.cell? ⟨w.heap.size, 1, none⟩ = some (.slice D l e)) from fun W hb => ⟨keepA hb (cell_blk hc0 rfl), keepA hb (cell_blk hc0 rfl)⟩)
  have HBs := Lib.hid (show Up w0 (fun W => Bs W A n c xs ∧ Is W C m d zs ∧ Is W D l e us ∧ Good W sa ∧ Lawful W ∧ ErT W) from fun W hb => ⟨hB.next (belowT hbx hb), hZ.next (belowT hbx hb), hU.next (belowT hbx hb), hG.below (belowT hbx hb), hL.below (belowT hbx hb), keepA (belowT hbx hb) hT⟩)
  have hf := fixed_any HBs.out.now.2.2.2.1 HBs.out.now.2.2.2.2.1 HBs.out.now.2.2.2.2.2
  have HX := Lib.hid hB.byt
  obtain rfl := hB.len
  clear hB hZ hU hG hL hT hbx hc0
  go_enter Tryd.func10, Tryd.ntmps10
  go_wp2_with fail
  rw [← hw0]
  refine hf.mono ?_
  rintro e w1 ⟨rfl, hb1⟩
  have HB1 := Lib.hid hb1
  obtain ⟨q0, q1⟩ := HC.out.at_ hb1
  clear hb1 hf hw0
  by_cases hmm : most < 1 ∨ 65536 < most
  · go_wp2_with fail
    refine (gives_no (HBs.out.at_ HB1.out).2.2.2.1 most hmm _ _).mono ?_
    rintro e w2 ⟨rfl, hb2⟩
    have HB2 := Lib.hid (belowT HB1.out hb2)
    have q1' := (HC.out.at_ HB2.out).2
    clear hb2
    go_wp2_with fail
    refine (gives_no (HBs.out.at_ HB2.out).2.2.2.1 most hmm _ _).mono ?_
    rintro e w3 ⟨rfl, hb3⟩
    have HB3 := Lib.hid (belowT HB2.out hb3)
    clear hb3
    rcases hmm with hmm | hmm
    · have h1 : decide (most < 1) = true := by simp [hmm]
      go_wp2_with fail
      go_ret
      exact ⟨rfl, belowT HBX.out HB3.out⟩
    · have h1 : decide (most < 1) = false := by simp; omega
      have h2 : decide (65536 < most) = true := by simp [hmm]
      go_wp2_with fail
      go_ret
      exact ⟨rfl, belowT HBX.out HB3.out⟩
  · have m1 : 1 ≤ most := by omega
    have m2 : most ≤ 65536 := by omega
    go_wp2_with fail
    obtain ⟨hB, hZ, hU, hG, hL, hT⟩ := HBs.out.at_ HB1.out
    refine (gives_any hG hL most A xs.length c xs hB hn C m d zs hZ hm m1 m2).mono ?_
    rintro e w2 ⟨f1, v1, b1, rfl, hg1⟩
    have HB2 := Lib.hid (belowT HB1.out hg1.below)
    have HG1 := Lib.hid hg1
    obtain ⟨A1, c1, rfl⟩ := hg1.form
    have q1' := (HC.out.at_ HB2.out).2
    clear hB hZ hU hG hL hT hg1 q0 q1
    go_wp2_with fail
    obtain ⟨hB, hZ, hU, hG, hL, hT⟩ := HBs.out.at_ HB2.out
    refine (gives_any hG hL most A xs.length c xs hB hn D l e us hU hl m1 m2).mono ?_
    rintro e w3 ⟨f2, v2, b2, rfl, hg2⟩
    obtain ⟨A2, c2, rfl⟩ := hg2.form
    have HB3 := Lib.hid (belowT HB2.out hg2.below)
    have HF1 := Lib.hid (HG1.out.F hg2.below)
    have HF2 := Lib.hid (hg2.F (Below.refl _ _))
    have HD1 := Lib.hid (HG1.out.dec.below hg2.below)
    have HD2 := Lib.hid hg2.dec
    have HN := Lib.hid (show (framesX most xs).length ≤ 9223372036854775807 by have := framesX_len most xs; omega)
    clear hB hZ hU hG hL hT hg2 q1'
    go_wp2_with fail
    refine (stream_dec (HBs.out.at_ HB3.out).2.2.2.2.2 HD1.out).mono ?_
    rintro e w4 ⟨rfl, hb4⟩
    have HB4 := Lib.hid (belowT HB3.out hb4)
    have HF1 := Lib.hid (Kd.F_mono (Kd.F_bound (Kd.F_below HF1.out hb4)) fun k hk => hk.2)
    have HF2 := Lib.hid (Kd.F_mono (Kd.F_bound (Kd.F_below HF2.out hb4)) fun k hk => hk.2)
    have HD1 := Lib.hid (HD1.out.below hb4)
    have HD2 := Lib.hid (HD2.out.below hb4)
    clear hb4 HB3
    go_wp2_with fail
    refine (stream_dec (HBs.out.at_ HB4.out).2.2.2.2.2 HD2.out).mono ?_
    rintro e w5 ⟨rfl, hb5⟩
    have HB5 := Lib.hid (belowT HB4.out hb5)
    have HF1 := Lib.hid (Kd.F_mono (Kd.F_bound (Kd.F_below HF1.out hb5)) fun k hk => hk.2)
    have HF2 := Lib.hid (Kd.F_mono (Kd.F_bound (Kd.F_below HF2.out hb5)) fun k hk => hk.2)
    have HD1 := Lib.hid (HD1.out.below hb5)
    have HD2 := Lib.hid (HD2.out.below hb5)
    clear hb5 HB4
    go_wp2_with fail
    refine (sameFrames_any rfl HF1.out HF2.out HN.out).mono ?_
    rintro e w6 ⟨rfl, hb6⟩
    have HB6 := Lib.hid (belowT HB5.out hb6)
    have HD1 := Lib.hid (HD1.out.below hb6)
    have HD2 := Lib.hid (HD2.out.below hb6)
    clear hb6 HB5 HF1 HF2
    go_wp2_with fail
    refine (code_any (HBs.out.at_ HB6.out).2.2.2.1 HD1.out.ev).mono ?_
    rintro e w6 ⟨rfl, rfl⟩
    go_wp2_with fail
    refine (code_any (HBs.out.at_ HB6.out).2.2.2.1 HD2.out.ev).mono ?_
    rintro e w6 ⟨rfl, rfl⟩
    go_wp2_with fail
    refine (held_dec HD1.out HX.out).mono ?_
    rintro e w6 ⟨rfl, rfl⟩
    go_wp2_with fail
    refine (held_dec HD2.out HX.out).mono ?_
    rintro e w6 ⟨rfl, rfl⟩
    go_wp2_with fail
    refine (wants_dec (HBs.out.at_ HB6.out).2.2.2.1 HD1.out HX.out (by omega)).mono ?_
    rintro e w7 ⟨rfl, hb7⟩
    have HB7 := Lib.hid (belowT HB6.out hb7)
    have HD1 := Lib.hid (HD1.out.below hb7)
    have HD2 := Lib.hid (HD2.out.below hb7)
    clear hb7 HB6
    go_wp2_with fail
    refine (wants_dec (HBs.out.at_ HB7.out).2.2.2.1 HD2.out HX.out (by omega)).mono ?_
    rintro e w8 ⟨rfl, hb8⟩
    have HB8 := Lib.hid (belowT HB7.out hb8)
    have HD1 := Lib.hid (HD1.out.below hb8)
    have HD2 := Lib.hid (HD2.out.below hb8)
    clear hb8 HB7
    go_wp2_with fail
    refine (err_dec HD1.out).mono ?_
    rintro e w8 ⟨rfl, rfl⟩
    go_wp2_with fail
    refine (code_any (HBs.out.at_ HB8.out).2.2.2.1 HD1.out.ev).mono ?_
    rintro e w8 ⟨rfl, rfl⟩
    go_wp2_with fail
    refine (code_any (HBs.out.at_ HB8.out).2.2.2.1 HD1.out.ev).mono ?_
    rintro e w8 ⟨rfl, rfl⟩
    go_wp2_with fail
    go_ret
    exact ⟨rfl, belowT HBX.out HB8.out⟩
end Go.Proofs.YtfddhipdedcacaaDoor
