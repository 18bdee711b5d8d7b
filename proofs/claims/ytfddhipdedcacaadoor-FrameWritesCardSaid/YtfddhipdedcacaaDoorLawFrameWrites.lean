/-
  frame's Encode, Size, Text and Bytes answer what the document's answer, for every frame: the law FrameWrites returns true. The listed package variables hold what the program's text lays (the card ties them); no other condition.
-/
import Derived.Test.YtfddhipdedcacaaDoorRowFrameWrites
import Derived.Test.YtfddhipdedcacaaDoorTie
import Derived.Test.YtfddhipdedcacaaDoorOfLaid
import Derived.Test.YtfddhipdedcacaaDoorWrites
import Derived.Test.YtfddhipdedcacaaDoorOpenF
import Derived.Test.YtfddhipdedcacaaDoorLaidT
namespace Go.Proofs.YtfddhipdedcacaaDoor.frameWrites
open Go.ChangeShapes Go.WideShapes Go.ChangeAt Go.RowKit Go.Joins Go.Deep
set_option linter.unusedVariables false


theorem of_laid {W : World} (h : laidMetH Tryd.prog Rows.frameWritesRow.laid W) : ∃ sa, Good W sa ∧ Lawful W ∧ Words W ∧ Pow10 W := by
  have h' := (laidMetH_iff.1 h).1
  obtain ⟨sa, hs⟩ := good_of h' fun n h1 h2 => List.mem_filter.2 ⟨mem_all h1 h2, rfl⟩
  exact ⟨sa, hs, lawful_of h' (List.mem_filter.2 ⟨List.mem_of_getElem? (i := 45) rfl, rfl⟩), words_of h' (List.mem_filter.2 ⟨List.mem_of_getElem? (i := 46) rfl, rfl⟩), pow10_of h' (List.mem_filter.2 ⟨List.mem_of_getElem? (i := 2) rfl, rfl⟩)⟩

set_option maxRecDepth 100000 in
theorem lifted (os : Os) (started : os.Started) (H : Type) (enc : TypeId × Value → H) :
    ReturnsInHanded {} Tryd.checked os 15 .any (fun w args => (Rows.frameWritesSpec.pre enc Tryd.prog Tryd.f15 [] false w args ∧ laidMetH Tryd.prog Rows.frameWritesRow.laid w) ∧ sizedMet enc Tryd.prog Tryd.f15 (OpenSpec.ofChange Rows.frameWritesSpec) false w args)
      (Rows.frameWritesSpec.post enc Tryd.prog Tryd.f15 false true false false) := by
  refine returnsInHanded_of_change_and (C := Tryd.checked) (X := fun w _ => laidMetH Tryd.prog Rows.frameWritesRow.laid w) (fun _ _ _ hh h => h.of_heap hh) own started (by kernel_rfl) Tryd.func15 (wit os H enc) ?_
  intro W base args ds gs before hval0 hW _ hsz0 hL _
  have hval : ∀ (j : Nat) t v, Tryd.f15.params[j]? = some t → args[j]? = some v → Value.okWide Tryd.prog W .any base t v := hval0
  have hW' := hW
  obtain ⟨p, q, hA0, hV, rfl, hfz, hnd⟩ := hW
  have hA : DataW.TrodAll enc Tryd.prog W 0 (fun _ => true) true Tryd.f15.params.toList args.toList ds p := hA0
  have hsz : (DataW.weightsEach Tryd.prog (Tryd.f15.params.toList ++ Rows.frameWritesSpec.plain.varTypes Tryd.prog) (ds ++ gs)).all (· ≤ reachBytes) = true := hsz0
  rw [Tryd.params15] at hA hval hsz
  obtain ⟨v0, vs0, d0, ds0, p0, q0, hargs, rfl, rfl, h0, r0⟩ := trodAll_cons hA
  obtain ⟨rfl, rfl, rfl⟩ := trodAll_nil r0
  obtain rfl : args = #[v0] := by cases args; simp_all
  obtain ⟨rfl, rfl⟩ := trodVars_none hV
  obtain ⟨sa, hG, hLw, hWd, hPw⟩ := of_laid hL
  have k0 := h0
  have lt0 : ∀ x ∈ p0, x.block < W.heap.size := by obtain ⟨m, hm⟩ := k0; exact DataW.trod_lt m _ _ _ hm
  obtain ⟨ver0, ty0, fl0, st0, ln0, A0, n0, c0, xs0, rfl, bs0, b0, dh0, db0, rfl, _, hdb0⟩ := open_frame (hval 0 45 v0 rfl rfl) h0
  clear hA0 hval0 hsz0
  obtain ⟨ver0, rfl⟩ := Int.eq_ofNat_of_zero_le b0.ver0
  obtain ⟨ty0, rfl⟩ := Int.eq_ofNat_of_zero_le b0.ty0
  obtain ⟨fl0, rfl⟩ := Int.eq_ofNat_of_zero_le b0.fl0
  obtain ⟨st0, rfl⟩ := Int.eq_ofNat_of_zero_le b0.st0
  obtain ⟨ln0, rfl⟩ := Int.eq_ofNat_of_zero_le b0.ln0
  refine (frameWrites_walk hG hLw hPw hWd ver0 ty0 fl0 st0 ln0 A0 n0 c0 xs0 bs0 ⟨b0.ver0, b0.ver1, b0.ty0, b0.ty1, b0.fl0, b0.fl1, b0.st0, b0.st1, b0.ln0, b0.ln1⟩ (sized_frame hsz (j := 0) rfl rfl hdb0)).mono fun e W' ⟨he, bel⟩ => ?_
  subst he
  exact ⟨_, rfl, _, _, _, [], _, [], hW', trodAll_mk1 (shut_bool Tryd.underlying4 _), trodAll_cons_mk (Below.trod laidOut (by kernel_rfl) (of_decide_eq_true (by kernel_rfl)) k0 bel lt0) (trodAll_mk0), rfl, bel.frame _, fun h => by cases h⟩

theorem said : Rows.FrameWritesSaid :=
  OpenClaim.holds_of_wide 15 Tryd.f15 rfl rfl rfl rfl rfl rfl rfl ⟨rfl, rfl, rfl, rfl, rfl⟩ rfl rfl rfl rfl rfl named Tryd.func15 facts inst wrap
    (fun os started H enc _ => lifted os started H enc)
/-- The card. -/
theorem card : Rows.FrameWritesCardSaid :=
  Claim7.holds_tied_plain_at .later [] _ _ _ _ said (fun _ h => by cases h) wfT (fun _ h => by cases h) frameWrites_row_tie rfl ⟨rfl, rfl⟩ (by kernel_rfl) rfl plain noGo
end Go.Proofs.YtfddhipdedcacaaDoor.frameWrites
namespace Go.Proofs.YtfddhipdedcacaaDoor
theorem frameWrites_card : Rows.FrameWritesCardSaid := frameWrites.card
end Go.Proofs.YtfddhipdedcacaaDoor
