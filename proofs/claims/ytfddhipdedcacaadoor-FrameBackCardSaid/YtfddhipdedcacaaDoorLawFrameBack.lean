/-
  Headers there and back, both ways; one text, one header; a frame's bytes are its header's and its payload's: the law FrameBack returns true. The listed package variables hold what the program's text lays (the card ties them); no other condition.
-/
import Derived.Test.YtfddhipdedcacaaDoorRowFrameBack
import Derived.Test.YtfddhipdedcacaaDoorTie
import Derived.Test.YtfddhipdedcacaaDoorOfLaid
import Derived.Test.YtfddhipdedcacaaDoorBack
import Derived.Test.YtfddhipdedcacaaDoorOpenF
import Derived.Test.YtfddhipdedcacaaDoorLaidT
namespace Go.Proofs.YtfddhipdedcacaaDoor.frameBack
open Go.ChangeShapes Go.WideShapes Go.ChangeAt Go.RowKit Go.Joins Go.Deep
set_option linter.unusedVariables false


theorem of_laid {W : World} (h : laidMetH Tryd.prog Rows.frameBackRow.laid W) : ∃ sa, Good W sa ∧ Lawful W ∧ Words W ∧ Pow10 W := by
  have h' := (laidMetH_iff.1 h).1
  obtain ⟨sa, hs⟩ := good_of h' fun n h1 h2 => List.mem_filter.2 ⟨mem_all h1 h2, rfl⟩
  exact ⟨sa, hs, lawful_of h' (List.mem_filter.2 ⟨List.mem_of_getElem? (i := 45) rfl, rfl⟩), words_of h' (List.mem_filter.2 ⟨List.mem_of_getElem? (i := 46) rfl, rfl⟩), pow10_of h' (List.mem_filter.2 ⟨List.mem_of_getElem? (i := 2) rfl, rfl⟩)⟩

set_option maxRecDepth 100000 in
theorem lifted (os : Os) (started : os.Started) (H : Type) (enc : TypeId × Value → H) :
    ReturnsInHanded {} Tryd.checked os 16 .any (fun w args => (Rows.frameBackSpec.pre enc Tryd.prog Tryd.f16 [] false w args ∧ laidMetH Tryd.prog Rows.frameBackRow.laid w) ∧ sizedMet enc Tryd.prog Tryd.f16 (OpenSpec.ofChange Rows.frameBackSpec) false w args)
      (Rows.frameBackSpec.post enc Tryd.prog Tryd.f16 false true false false) := by
  refine returnsInHanded_of_change_and (C := Tryd.checked) (X := fun w _ => laidMetH Tryd.prog Rows.frameBackRow.laid w) (fun _ _ _ hh h => h.of_heap hh) own started (by kernel_rfl) Tryd.func16 (wit os H enc) ?_
  intro W base args ds gs before hval0 hW _ hsz0 hL _
  have hval : ∀ (j : Nat) t v, Tryd.f16.params[j]? = some t → args[j]? = some v → Value.okWide Tryd.prog W .any base t v := hval0
  have hW' := hW
  obtain ⟨p, q, hA0, hV, rfl, hfz, hnd⟩ := hW
  have hA : DataW.TrodAll enc Tryd.prog W 0 (fun _ => true) true Tryd.f16.params.toList args.toList ds p := hA0
  have hsz : (DataW.weightsEach Tryd.prog (Tryd.f16.params.toList ++ Rows.frameBackSpec.plain.varTypes Tryd.prog) (ds ++ gs)).all (· ≤ reachBytes) = true := hsz0
  rw [Tryd.params16] at hA hval hsz
  obtain ⟨v0, vs0, d0, ds0, p0, q0, hargs, rfl, rfl, h0, r0⟩ := trodAll_cons hA
  obtain ⟨v1, vs1, d1, ds1, p1, q1, rfl, rfl, rfl, h1, r1⟩ := trodAll_cons r0
  obtain ⟨v2, vs2, d2, ds2, p2, q2, rfl, rfl, rfl, h2, r2⟩ := trodAll_cons r1
  obtain ⟨rfl, rfl, rfl⟩ := trodAll_nil r2
  obtain rfl : args = #[v0, v1, v2] := by cases args; simp_all
  obtain ⟨rfl, rfl⟩ := trodVars_none hV
  obtain ⟨sa, hG, hLw, hWd, hPw⟩ := of_laid hL
  have k0 := h0
  have lt0 : ∀ x ∈ p0, x.block < W.heap.size := by obtain ⟨m, hm⟩ := k0; exact DataW.trod_lt m _ _ _ hm
  obtain ⟨ver0, ty0, fl0, st0, ln0, A0, n0, c0, xs0, rfl, bs0, b0, dh0, db0, rfl, _, hdb0⟩ := open_frame (hval 0 45 v0 rfl rfl) h0
  have k1 := h1
  have lt1 : ∀ x ∈ p1, x.block < W.heap.size := by obtain ⟨m, hm⟩ := k1; exact DataW.trod_lt m _ _ _ hm
  obtain ⟨ver1, ty1, fl1, st1, ln1, rfl, b1⟩ := open_header (hval 1 26 v1 rfl rfl) h1
  have k2 := h2
  have lt2 : ∀ x ∈ p2, x.block < W.heap.size := by obtain ⟨m, hm⟩ := k2; exact DataW.trod_lt m _ _ _ hm
  obtain ⟨A2, n2, c2, xs2, rfl, b2⟩ := open_bytes (hval 2 38 v2 rfl rfl) h2
  clear hA0 hval0 hsz0
  obtain ⟨ver0, rfl⟩ := Int.eq_ofNat_of_zero_le b0.ver0
  obtain ⟨ty0, rfl⟩ := Int.eq_ofNat_of_zero_le b0.ty0
  obtain ⟨fl0, rfl⟩ := Int.eq_ofNat_of_zero_le b0.fl0
  obtain ⟨st0, rfl⟩ := Int.eq_ofNat_of_zero_le b0.st0
  obtain ⟨ln0, rfl⟩ := Int.eq_ofNat_of_zero_le b0.ln0
  obtain ⟨ver1, rfl⟩ := Int.eq_ofNat_of_zero_le b1.ver0
  obtain ⟨ty1, rfl⟩ := Int.eq_ofNat_of_zero_le b1.ty0
  obtain ⟨fl1, rfl⟩ := Int.eq_ofNat_of_zero_le b1.fl0
  obtain ⟨st1, rfl⟩ := Int.eq_ofNat_of_zero_le b1.st0
  obtain ⟨ln1, rfl⟩ := Int.eq_ofNat_of_zero_le b1.ln0
  refine (frameBack_walk hG hLw hPw hWd ver0 ty0 fl0 st0 ln0 ver1 ty1 fl1 st1 ln1 A0 n0 c0 xs0 bs0 A2 n2 c2 xs2 b2 ⟨b0.ver0, b0.ver1, b0.ty0, b0.ty1, b0.fl0, b0.fl1, b0.st0, b0.st1, b0.ln0, b0.ln1⟩ ⟨b1.ver0, b1.ver1, b1.ty0, b1.ty1, b1.fl0, b1.fl1, b1.st0, b1.st1, b1.ln0, b1.ln1⟩ (sized_frame hsz (j := 0) rfl rfl hdb0) (sized_bytes hsz (j := 2) rfl rfl k2)).mono fun e W' ⟨he, bel⟩ => ?_
  subst he
  exact ⟨_, rfl, _, _, _, [], _, [], hW', trodAll_mk1 (shut_bool Tryd.underlying4 _), trodAll_cons_mk (Below.trod laidOut (by kernel_rfl) (of_decide_eq_true (by kernel_rfl)) k0 bel lt0) (trodAll_cons_mk (Below.trod laidOut (by kernel_rfl) (of_decide_eq_true (by kernel_rfl)) k1 bel lt1) (trodAll_cons_mk (Below.trod laidOut (by kernel_rfl) (of_decide_eq_true (by kernel_rfl)) k2 bel lt2) (trodAll_mk0))), rfl, bel.frame _, fun h => by cases h⟩

theorem said : Rows.FrameBackSaid :=
  OpenClaim.holds_of_wide 16 Tryd.f16 rfl rfl rfl rfl rfl rfl rfl ⟨rfl, rfl, rfl, rfl, rfl⟩ rfl rfl rfl rfl rfl named Tryd.func16 facts inst wrap
    (fun os started H enc _ => lifted os started H enc)
/-- The card. -/
theorem card : Rows.FrameBackCardSaid :=
  Claim7.holds_tied_plain_at .later [] _ _ _ _ said (fun _ h => by cases h) wfT (fun _ h => by cases h) frameBack_row_tie rfl ⟨rfl, rfl⟩ (by kernel_rfl) rfl plain noGo
end Go.Proofs.YtfddhipdedcacaaDoor.frameBack
namespace Go.Proofs.YtfddhipdedcacaaDoor
theorem frameBack_card : Rows.FrameBackCardSaid := frameBack.card
end Go.Proofs.YtfddhipdedcacaaDoor
