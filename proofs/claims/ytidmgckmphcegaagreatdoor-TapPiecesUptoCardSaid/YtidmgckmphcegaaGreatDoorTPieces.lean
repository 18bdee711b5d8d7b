/-
  TapPieces, walked: what a tap tells, has seen and dies of doesn't hang on the pieces.
-/
import Derived.Test.YtidmgckmphcegaaGreatDoorTHeard
import Derived.Test.YtidmgckmphcegaaGreatDoorTRows
namespace Go.Proofs.YtidmgckmphcegaaGreatDoor
open Go.RowKit Go.Proofs.YtidmgckmphcegaaGreatDoorW.PrintWords Go.Proofs.YtidmgckmphcegaaGreatDoorW.PrintLast Go.Proofs.YtidmgckmphcegaaGreatDoor.Px
set_option linter.unusedVariables false
set_option linter.unusedSimpArgs false
/-- The single bytes of a list, as slices of it. -/
def onesV (b o c : Nat) : Nat → List Value
  | 0 => []
  | i + 1 => onesV b o c i ++ [.slice (some ⟨b, o + i, none⟩) 1 (c - i)]
theorem onesV_len (b o c : Nat) : ∀ i, (onesV b o c i).length = i
  | 0 => rfl
  | i + 1 => by rw [onesV, List.length_append, onesV_len]; rfl
theorem onesV_at (b o c : Nat) : ∀ i j, j < i → (onesV b o c i)[j]? = some (.slice (some ⟨b, o + j, none⟩) 1 (c - j))
  | 0, j, h => by omega
  | i + 1, j, h => by
    rw [onesV]
    by_cases e : j < i
    · rw [List.getElem?_append_left (by rw [onesV_len]; exact e)]; exact onesV_at b o c i j e
    · obtain rfl : j = i := by omega
      rw [List.getElem?_append_right (by rw [onesV_len]; omega), onesV_len]; simp
def ones (xs : List Int) : List (List Int) := xs.map fun x => [x]
theorem ones_flat (xs : List Int) : (ones xs).flatten = xs := by
  unfold ones
  induction xs with
  | nil => rfl
  | cons x xs ih => rw [List.map_cons, List.flatten_cons, ih]; rfl
theorem ones_sum (xs : List Int) : ((ones xs).map List.length).sum = xs.length := by rw [← List.length_flatten, ones_flat]
theorem ones_getD {xs : List Int} {j : Nat} (h : j < xs.length) : (ones xs).getD j [] = [xs.getD j 0] := by
  unfold ones
  rw [List.getD_eq_getElem?_getD, List.getElem?_map, List.getElem?_eq_getElem h, List.getD_eq_getElem?_getD, List.getElem?_eq_getElem h]; rfl
theorem one_bs {W : World} {b o c n : Nat} {xs : List Int} (h : Bs W (some ⟨b, o, none⟩) n c xs) {j : Nat} (hj : j < n) : Bs W (some ⟨b, o + j, none⟩) 1 (c - j) [xs.getD j 0] := by
  have hl := h.len
  have hc := h.cap
  obtain ⟨b', o', e, hr⟩ := h.rd (by omega)
  injection e with e
  injection e with e1 e2
  subst e1 e2
  refine ⟨rfl, by omega, by have := h.max; omega, fun y hy => ?_, fun e => (by cases e), fun _ => ⟨b, o + j, rfl, fun i hi => ?_⟩⟩
  · rw [List.mem_singleton.1 hy]
    exact (byte_at h.byt rfl)
  · obtain rfl : i = 0 := by omega
    exact hr j hj
/-- What Seen answers, whichever tap was fed these bytes. -/
theorem tseen_same (sa : Nat → Addr) (most : Int) (xs : List Int) (k : Nat) (hk : k ≤ 255) : ∃ a b : Int, ∀ (w0 w : World) (g gd b' : Nat) (v : Value), TapV sa w0 w g gd most xs v b' →
    Calls Tryz.prog 40 #[.pointer (some ⟨g, 0, none⟩), .int .u8 k] w fun e w' => e = .returned (.tuple #[.int .i64 a, .int .i64 b]) ∧ Below w.heap.size w w' :=
  ⟨_, _, fun w0 w g gd b' v h => tseen_any h k hk⟩
/-- What Err answers, and Code of it. -/
theorem terr_ev {sa : Nat → Addr} {w0 w : World} {g gd b : Nat} {most : Int} {xs : List Int} {v : Value} (h : TapV sa w0 w g gd most xs v b) : ∃ ev, EV sa w (whyX most xs) (stX most xs) ev ∧
    Calls Tryz.prog 28 #[.pointer (some ⟨g, 0, none⟩)] w fun e w' => e = .returned ev ∧ w' = w := ⟨_, h.dec.ev, terr_any h⟩
set_option maxRecDepth 100000 in
set_option maxHeartbeats 4000000 in
theorem tapPieces_walk {sa : Nat → Addr} {w : World} (hE : TE sa w) (most : Int) (A : Option Addr) (n c : Nat) (ps : List (List Int)) (hP : Pcs w A n c ps) (hs : (ps.map List.length).sum + n ≤ 10000000) :
    Calls Tryz.prog 12 #[.int .i64 most, .slice A n c] w fun e w' => e = .returned (.bool true) ∧ Below w.heap.size w w' := by
  have hbt := pcs_byt hP
  obtain ⟨xs, hxs⟩ : ∃ xs, xs = ps.flatten := ⟨_, rfl⟩
  have hxl : xs.length ≤ 10000000 := by rw [hxs, List.length_flatten]; omega
  have hxb : ∀ x ∈ xs, 0 ≤ x ∧ x ≤ 255 := by
    intro x hx
    rw [hxs] at hx
    obtain ⟨p, hp, hx⟩ := List.mem_flatten.1 hx
    exact hbt p hp x hx
  have HE := Lib.hid hE
  have HP := Lib.hid hP
  have HS := Lib.hid hs
  have HXS := Lib.hid hxs
  have HXB := Lib.hid hxb
  clear hE hP hs hbt hxs hxb
  go_enter Tryz.func12, Tryz.ntmps12
  go_wp2_with fail
  refine (wakes_any HE.out).mono ?_
  rintro e w1 ⟨rfl, hb1⟩
  have HB1 := Lib.hid hb1
  have HP1 := Lib.hid (HP.out.next hb1)
  clear hb1 HP
  go_wp2_with fail
  refine (joined26_any HP1.out (by have := HS.out; omega)).mono ?_
  rintro e w2 ⟨va, rfl, hoa, hb2⟩
  rw [← HXS.out] at hoa
  obtain ⟨A2, c2, rfl, hq2⟩ := Own.bs hoa HXB.out
  have HB2 := Lib.hid (belowT HB1.out hb2)
  have HP2 := Lib.hid (HP1.out.next hb2)
  have HQ2 := Lib.hid hq2
  obtain ⟨b, o, hA⟩ : ∃ b o, 0 < xs.length → A2 = some ⟨b, o, none⟩ := by
    by_cases h0 : 0 < xs.length
    · obtain ⟨b, o, e, _⟩ := hq2.rd h0
      exact ⟨b, o, fun _ => e⟩
    · exact ⟨0, 0, fun h => absurd h h0⟩
  have hcap := hq2.cap
  clear hb2 hoa hq2 HP1 HB1
  go_wp2_with fail
  go_loopw [6, 7] (fun u i wr => ∃ k : Nat, k ≤ xs.length ∧ i = .int .i64 k ∧ Hid (SL wr w2.heap.size u (onesV b o c2 k)) ∧ Hid (Below w2.heap.size w2 wr)) (fun _ i _ => xs.length - (intOf i).toNat)
  case atStart => exact ⟨0, by omega, rfl, Lib.hid (SL_nil _ _), Lib.hid (Below.refl _ _)⟩
  case round =>
    obtain ⟨k, hk, rfl, HSL, HBr⟩ := hrel
    by_cases hlt : k < xs.length
    · obtain rfl := hA (by omega)
      have hlt' : (k : Int) < xs.length := by omega
      have hck : ¬ c2 = k := by omega
      go_wp2_with (at_builtin; go_loud (refine sl_append (w0 := w2) rfl _ _ rfl u6 (onesV b o c2 k) (.slice (some ⟨b, o + k, none⟩) 1 (c2 - k)) rfl rfl rfl HSL.out HBr.out (by rw [onesV_len]; omega) ?_; intro v4 w4 h4 hb4 hg4; have HSL4 := Lib.hid h4; have HBr4 := Lib.hid hb4; clear h4 hb4 hg4))
      go_roundw
      case rel => exact ⟨k + 1, by omega, by go_num, Lib.hid HSL4.out, HBr4⟩
      case measure => simp [intOf]; omega
    · obtain rfl : k = xs.length := by omega
      have hd : decide ((xs.length : Int) < (xs.length : Int)) = false := by simp
      have HB3 := Lib.hid (belowT HB2.out HBr.out)
      have HP3 := Lib.hid (HP2.out.next HBr.out)
      have HQ3 := Lib.hid (HQ2.out.next HBr.out)
      clear HB2 HP2 HQ2 HBr
      by_cases hmm : most < 1 ∨ 65536 < most
      · go_wp2_with fail
        refine (heard_no (HE.out.below HB3.out).good most hmm _).mono ?_
        rintro e w4 ⟨rfl, hb4⟩
        have HB4 := Lib.hid (belowT HB3.out hb4)
        clear hb4
        go_wp2_with fail
        obtain ⟨w4', hw4'⟩ : ∃ w4', w4' = w4.alloc (.cells #[.slice A2 xs.length c2] 26) := ⟨_, rfl⟩
        have hb4' : Below w4.heap.size w4 w4' := by rw [hw4']; exact (Below.refl _ _).alloc (Nat.le_refl _) _
        rw [← hw4']
        have HB4' := Lib.hid (belowT HB4.out hb4')
        clear hb4' hw4'
        refine (heard_no (HE.out.below HB4'.out).good most hmm _).mono ?_
        rintro e w5 ⟨rfl, hb5⟩
        have HB5 := Lib.hid (belowT HB4'.out hb5)
        clear hb5
        go_wp2_with fail
        refine (heard_no (HE.out.below HB5.out).good most hmm _).mono ?_
        rintro e w6 ⟨rfl, hb6⟩
        have HB6 := Lib.hid (belowT HB5.out hb6)
        clear hb6
        rcases hmm with hmm | hmm
        · have h1 : decide (most < 1) = true := by simp [hmm]
          go_wp2_with fail
          go_ret
          exact ⟨rfl, HB6.out⟩
        · have h1 : decide (most < 1) = false := by simp; omega
          have h2 : decide (65536 < most) = true := by simp [hmm]
          go_wp2_with fail
          go_ret
          exact ⟨rfl, HB6.out⟩
      · have m1 : 1 ≤ most := by omega
        have m2 : most ≤ 65536 := by omega
        go_wp2_with fail
        refine (heard_at (HE.out.below HB3.out) most m1 m2 HP3.out (by have := HS.out; omega) xs HXS.out.symm).mono ?_
        rintro e w4 ⟨g1, gd1, v1, b1, rfl, hh1⟩
        have HB4 := Lib.hid (belowT HB3.out hh1.below)
        have HV1 := Lib.hid hh1.tap
        have HQ4 := Lib.hid (HQ3.out.next hh1.below)
        have HSL4 := Lib.hid (HSL.out.below hh1.below)
        clear hh1 HB3 HP3 HQ3 HSL
        go_wp2_with fail
        obtain ⟨w4', hw4'⟩ : ∃ w4', w4' = w4.alloc (.cells #[.slice A2 xs.length c2] 26) := ⟨_, rfl⟩
        have hb4' : Below w4.heap.size w4 w4' := by rw [hw4']; exact (Below.refl _ _).alloc (Nat.le_refl _) _
        have hp4' : Pcs w4' (some ⟨w4.heap.size, 0, none⟩) 1 1 [xs] := by rw [hw4']; exact pcs_one HQ4.out
        rw [← hw4']
        have HB4' := Lib.hid (belowT HB4.out hb4')
        have HV1' := Lib.hid (HV1.out.below hb4')
        have HQ4' := Lib.hid (HQ4.out.next hb4')
        have HSL4' := Lib.hid (HSL4.out.below hb4')
        have HP4' := Lib.hid hp4'
        clear hb4' hw4' hp4' HB4 HV1 HQ4 HSL4
        refine (heard_at (HE.out.below HB4'.out) most m1 m2 HP4'.out (by simp; omega) xs (by simp)).mono ?_
        rintro e w5 ⟨g2, gd2, v2, b2, rfl, hh2⟩
        have HB5 := Lib.hid (belowT HB4'.out hh2.below)
        have HV1 := Lib.hid (HV1'.out.below hh2.below)
        have HV2 := Lib.hid hh2.tap
        have hsl5 := HSL4'.out.below hh2.below
        have hq5 := HQ4'.out.next hh2.below
        obtain ⟨A6, c6, rfl, hp6⟩ := hsl5.pcs (ps := ones xs) (by rw [onesV_len]; unfold ones; simp) (fun j hj => by
          have hj' : j < xs.length := by unfold ones at hj; simpa using hj
          rw [ones_getD hj']
          obtain rfl := hA (by omega)
          exact ⟨_, _, onesV_at _ _ _ _ _ hj', one_bs hq5 hj'⟩)
        have HP5 := Lib.hid hp6
        have hol : (ones xs).length = xs.length := by unfold ones; simp
        have hos : ((ones xs).map List.length).sum + (ones xs).length ≤ 100000000 := by rw [ones_sum, hol]; omega
        have HOS := Lib.hid hos
        rw [hol]
        clear hh2 hsl5 hq5 hp6 HB4' HV1' HQ4' HSL4' HP4' hos
        go_wp2_with fail
        have hx3 := heard_at (HE.out.below HB5.out) most m1 m2 HP5.out HOS.out xs (ones_flat xs)
        rw [hol] at hx3
        refine hx3.mono ?_
        rintro e w6 ⟨g3, gd3, v3, b3, rfl, hh3⟩
        have HB6 := Lib.hid (belowT HB5.out hh3.below)
        have HV1 := Lib.hid (HV1.out.below hh3.below)
        have HV2 := Lib.hid (HV2.out.below hh3.below)
        have HV3 := Lib.hid hh3.tap
        obtain ⟨sl, hsl⟩ : ∃ sl : ByteArray, sl = ⟨(tellAll most xs).toArray⟩ := ⟨_, rfl⟩
        rw [← hsl]
        clear hh3 hx3 HB5 HP5 hsl hol
        go_wp2_with fail
        go_loopw [17] (fun kk wr => ∃ k : Nat, k ≤ 256 ∧ kk = .int .i64 k ∧ Hid (Below w6.heap.size w6 wr)) (fun kk _ => 256 - (intOf kk).toNat)
        case atStart => exact ⟨0, by omega, rfl, Lib.hid (Below.refl _ _)⟩
        case round =>
          obtain ⟨k, hk, rfl, HBr⟩ := hrel
          have HW1 := Lib.hid (HV1.out.below HBr.out)
          have HW2 := Lib.hid (HV2.out.below HBr.out)
          have HW3 := Lib.hid (HV3.out.below HBr.out)
          by_cases hlt : k < 256
          · have hd1 : decide ((k : Int) < 256) = true := by simp; omega
            have hwk : IntKind.u8.wrap (k : Int) = k := by simp [IntKind.wrap, IntKind.bits, IntKind.signed]; omega
            obtain ⟨cn, sn, hseen⟩ := tseen_same sa most xs k (by omega)
            have HSN := Lib.hid hseen
            clear hseen
            go_wp2_with fail
            refine (HSN.out _ _ _ _ _ _ HW1.out).mono ?_
            rintro e w7 ⟨rfl, hb7⟩
            have HX2 := Lib.hid (HW2.out.below hb7)
            have HX3 := Lib.hid (HW3.out.below hb7)
            have HB7 := Lib.hid (belowT HBr.out hb7)
            clear hb7 HW1 HW2 HW3
            go_wp2_with fail
            refine (HSN.out _ _ _ _ _ _ HX2.out).mono ?_
            rintro e w8 ⟨rfl, hb8⟩
            have HY3 := Lib.hid (HX3.out.below hb8)
            have HB8 := Lib.hid (belowT HB7.out hb8)
            clear hb8 HX2 HX3
            go_wp2_with fail
            refine (HSN.out _ _ _ _ _ _ HY3.out).mono ?_
            rintro e w9 ⟨rfl, hb9⟩
            have HB9 := Lib.hid (belowT HB8.out hb9)
            clear hb9 HY3
            go_wp2_with fail
            go_roundw
            case rel => exact ⟨k + 1, by omega, by go_num, HB9⟩
            case measure => simp [intOf]; omega
          · obtain rfl : k = 256 := by omega
            have hd1 : decide (((256 : Nat) : Int) < 256) = false := by simp
            have HBz := Lib.hid (belowT HB6.out HBr.out)
            obtain ⟨e1, hv1, hc1⟩ := terr_ev HW1.out
            obtain ⟨e2, hv2, hc2⟩ := terr_ev HW2.out
            obtain ⟨e3, hv3, hc3⟩ := terr_ev HW3.out
            have C1 := Lib.hid hc1
            have C2 := Lib.hid hc2
            have C3 := Lib.hid hc3
            have D1 := Lib.hid (code_any (HE.out.below HBz.out).good hv1)
            have D2 := Lib.hid (code_any (HE.out.below HBz.out).good hv2)
            have D3 := Lib.hid (code_any (HE.out.below HBz.out).good hv3)
            clear hc1 hc2 hc3 hv1 hv2 hv3 HW1 HW2 HW3
            go_wp2_with fail
            refine C1.out.mono ?_
            rintro e w7 ⟨rfl, rfl⟩
            go_wp2_with fail
            refine D1.out.mono ?_
            rintro e w7 ⟨rfl, rfl⟩
            go_wp2_with fail
            refine C2.out.mono ?_
            rintro e w7 ⟨rfl, rfl⟩
            go_wp2_with fail
            refine D2.out.mono ?_
            rintro e w7 ⟨rfl, rfl⟩
            go_wp2_with fail
            refine C3.out.mono ?_
            rintro e w7 ⟨rfl, rfl⟩
            go_wp2_with fail
            refine D3.out.mono ?_
            rintro e w7 ⟨rfl, rfl⟩
            go_wp2_with fail
            go_ret
            exact ⟨rfl, HBz.out⟩
end Go.Proofs.YtidmgckmphcegaaGreatDoor
