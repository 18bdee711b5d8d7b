/-
  The bytes of frames that may be, in any pieces, come back as these frames; then nothing is held: the law FeedBack returns true. Where what the call reads is of bulk at most 1048576. The listed package variables hold what the program's text lays (the card ties them); no other condition.
-/
import Derived.Test.YtfddhipdedcacaaDoorRowFeedBack
import Derived.Test.YtfddhipdedcacaaDoorTie
import Derived.Test.YtfddhipdedcacaaDoorMB
import Derived.Test.YtfddhipdedcacaaDoorFeedBack
import Derived.Test.YtfddhipdedcacaaDoorMD
namespace Go.Proofs.YtfddhipdedcacaaDoor.feedBackUpto
open Go.ChangeShapes Go.WideShapes Go.ChangeAt Go.RowKit Go.Joins Go.Deep
set_option linter.unusedVariables false


theorem of_laid {W : World} (h : laidMetH Tryd.prog Rows.feedBackUptoRow.laid W) : ∃ sa, Good W sa ∧ Lawful W ∧ ErT W := by
  have h' := (laidMetH_iff.1 h).1
  obtain ⟨sa, hs⟩ := good_of h' fun n h1 h2 => List.mem_filter.2 ⟨mem_all h1 h2, rfl⟩
  exact ⟨sa, hs, lawful_of h' (List.mem_filter.2 ⟨List.mem_of_getElem? (i := 43) rfl, rfl⟩), ert_of h (List.mem_of_getElem? (i := 0) rfl)⟩

set_option maxRecDepth 100000 in
theorem lifted (os : Os) (started : os.Started) (H : Type) (enc : TypeId × Value → H) (Fi : Stop.Interp) :
    ReturnsInHanded {} Tryd.checked os 13 .any ((Rows.OpenSpec.upto Rows.feedBackSpec).preRow enc Tryd.prog Tryd.f13 [] false Rows.feedBackUptoRow.laid)
      (((Rows.OpenSpec.upto Rows.feedBackSpec).at Fi).post enc Tryd.prog Tryd.f13 false true false false) := by
  refine returnsInHanded_of_row (C := Tryd.checked) (s := (Rows.OpenSpec.upto Rows.feedBackSpec)) own started (by kernel_rfl) Tryd.func13 (wit os H enc) ?_
  intro W base args ds gs before hval0 hW _ hkk _ hL _ _
  have hval : ∀ (j : Nat) t v, Tryd.f13.params[j]? = some t → args[j]? = some v → Value.okWide Tryd.prog W .any base t v := hval0
  have hW' := hW
  have hsm : Rows.uptoSmall H (ds ++ gs) = true := hkk _ rfl
  obtain ⟨p, q, hA0, hV, rfl, hfz, hnd⟩ := hW
  have hA : DataW.TrodAll enc Tryd.prog W 0 (fun _ => true) true Tryd.f13.params.toList args.toList ds p := hA0
  rw [Tryd.params13] at hA hval
  obtain ⟨v0, vs0, d0, ds0, p0, q0, hargs, rfl, rfl, h0, r0⟩ := trodAll_cons hA
  obtain ⟨v1, vs1, d1, ds1, p1, q1, rfl, rfl, rfl, h1, r1⟩ := trodAll_cons r0
  obtain ⟨v2, vs2, d2, ds2, p2, q2, rfl, rfl, rfl, h2, r2⟩ := trodAll_cons r1
  obtain ⟨rfl, rfl, rfl⟩ := trodAll_nil r2
  obtain rfl : args = #[v0, v1, v2] := by cases args; simp_all
  obtain ⟨rfl, rfl⟩ := trodVars_none hV
  obtain ⟨sa, hG, hLw, hEt⟩ := of_laid hL
  have k0 := h0
  have lt0 : ∀ x ∈ p0, x.block < W.heap.size := by obtain ⟨m, hm⟩ := k0; exact DataW.trod_lt m _ _ _ hm
  have z0 := bulk_arg hsm (j := 0) rfl
  obtain ⟨a0, rfl, _, _, w0⟩ := open_int Tryd.underlying3 (hval 0 3 v0 rfl rfl) h0
  have k1 := h1
  have lt1 : ∀ x ∈ p1, x.block < W.heap.size := by obtain ⟨m, hm⟩ := k1; exact DataW.trod_lt m _ _ _ hm
  have z1 := bulk_arg hsm (j := 1) rfl
  obtain ⟨A1, n1, c1, fs1, rfl, b1, g1, u1⟩ := open_frames (hval 1 56 v1 rfl rfl) h1
  have k2 := h2
  have lt2 : ∀ x ∈ p2, x.block < W.heap.size := by obtain ⟨m, hm⟩ := k2; exact DataW.trod_lt m _ _ _ hm
  have z2 := bulk_arg hsm (j := 2) rfl
  obtain ⟨A2, n2, c2, zs2, rfl, b2, u2⟩ := open_intsU (hval 2 69 v2 rfl rfl) h2
  clear hA0 hval0 hsm
  refine (feedBack_walk hG hLw hEt a0 A1 n1 c1 fs1 b1 g1 A2 n2 c2 zs2 b2 (back_size u1 z1) (by omega)).mono fun e W' ⟨he, bel⟩ => ?_
  subst he
  exact ⟨_, rfl, _, _, _, [], _, [], hW', trodAll_mk1 (shut_bool Tryd.underlying4 _), trodAll_cons_mk (Below.trod laidOut (by kernel_rfl) (of_decide_eq_true (by kernel_rfl)) k0 bel lt0) (trodAll_cons_mk (Below.trod laidOut (by kernel_rfl) (of_decide_eq_true (by kernel_rfl)) k1 bel lt1) (trodAll_cons_mk (Below.trod laidOut (by kernel_rfl) (of_decide_eq_true (by kernel_rfl)) k2 bel lt2) (trodAll_mk0))), rfl, bel.frame _, fun h => by cases h⟩

theorem said : Rows.FeedBackUptoSaid :=
  OpenClaim.holds_of_cond 13 Tryd.f13 rfl rfl rfl rfl rfl rfl rfl ⟨rfl, rfl, rfl, rfl, rfl⟩ rfl rfl rfl rfl rfl named Tryd.func13 facts inst wrap
    (fun os started H enc _ F0 => by rw [OpenClaim.pre_eq_preRow]; exact lifted os started H enc F0)
/-- The card. -/
theorem card : Rows.FeedBackUptoCardSaid :=
  Claim7.holds_tied_plain_at .later [] _ _ _ _ said (fun _ h => by cases h) wfT (fun _ h => by cases h) feedBackUpto_row_tie rfl ⟨rfl, rfl⟩ (by kernel_rfl) rfl plain noGo
end Go.Proofs.YtfddhipdedcacaaDoor.feedBackUpto
namespace Go.Proofs.YtfddhipdedcacaaDoor
theorem feedBackUpto_card : Rows.FeedBackUptoCardSaid := feedBackUpto.card
end Go.Proofs.YtfddhipdedcacaaDoor
