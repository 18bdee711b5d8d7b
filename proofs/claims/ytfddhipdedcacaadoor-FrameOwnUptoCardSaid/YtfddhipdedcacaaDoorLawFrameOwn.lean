/-
  Answers are new memory; what is handed in stays: the law FrameOwn returns true. Where what the call reads is of bulk at most 1048576. The listed package variables hold what the program's text lays (the card ties them); no other condition.
-/
import Derived.Test.YtfddhipdedcacaaDoorRowFrameOwn
import Derived.Test.YtfddhipdedcacaaDoorTie
import Derived.Test.YtfddhipdedcacaaDoorMB
import Derived.Test.YtfddhipdedcacaaDoorFrameOwn
import Derived.Test.YtfddhipdedcacaaDoorMD
namespace Go.Proofs.YtfddhipdedcacaaDoor.frameOwnUpto
open Go.ChangeShapes Go.WideShapes Go.ChangeAt Go.RowKit Go.Joins Go.Deep
set_option linter.unusedVariables false


theorem of_laid {W : World} (h : laidMetH Tryd.prog Rows.frameOwnUptoRow.laid W) : ∃ sa, Good W sa ∧ Lawful W := by
  have h' := (laidMetH_iff.1 h).1
  obtain ⟨sa, hs⟩ := good_of h' fun n h1 h2 => List.mem_filter.2 ⟨mem_all h1 h2, rfl⟩
  exact ⟨sa, hs, lawful_of h' (List.mem_filter.2 ⟨List.mem_of_getElem? (i := 42) rfl, rfl⟩)⟩

set_option maxRecDepth 100000 in
theorem lifted (os : Os) (started : os.Started) (H : Type) (enc : TypeId × Value → H) (Fi : Stop.Interp) :
    ReturnsInHanded {} Tryd.checked os 7 .any ((Rows.OpenSpec.upto Rows.frameOwnSpec).preRow enc Tryd.prog Tryd.f7 [] false Rows.frameOwnUptoRow.laid)
      (((Rows.OpenSpec.upto Rows.frameOwnSpec).at Fi).post enc Tryd.prog Tryd.f7 false true false false) := by
  refine returnsInHanded_of_row (C := Tryd.checked) (s := (Rows.OpenSpec.upto Rows.frameOwnSpec)) own started (by kernel_rfl) Tryd.func7 (wit os H enc) ?_
  intro W base args ds gs before hval0 hW _ hkk _ hL _ _
  have hval : ∀ (j : Nat) t v, Tryd.f7.params[j]? = some t → args[j]? = some v → Value.okWide Tryd.prog W .any base t v := hval0
  have hW' := hW
  have hsm : Rows.uptoSmall H (ds ++ gs) = true := hkk _ rfl
  obtain ⟨p, q, hA0, hV, rfl, hfz, hnd⟩ := hW
  have hA : DataW.TrodAll enc Tryd.prog W 0 (fun _ => true) true Tryd.f7.params.toList args.toList ds p := hA0
  rw [Tryd.params7] at hA hval
  obtain ⟨v0, vs0, d0, ds0, p0, q0, hargs, rfl, rfl, h0, r0⟩ := trodAll_cons hA
  obtain ⟨rfl, rfl, rfl⟩ := trodAll_nil r0
  obtain rfl : args = #[v0] := by cases args; simp_all
  obtain ⟨rfl, rfl⟩ := trodVars_none hV
  obtain ⟨sa, hG, hLw⟩ := of_laid hL
  have k0 := h0
  have lt0 : ∀ x ∈ p0, x.block < W.heap.size := by obtain ⟨m, hm⟩ := k0; exact DataW.trod_lt m _ _ _ hm
  have z0 := bulk_arg hsm (j := 0) rfl
  obtain ⟨ver0, ty0, fl0, st0, ln0, A0, n0, c0, xs0, rfl, bs0, b0, dh0, db0, rfl, _, hdb0⟩ := open_frame (hval 0 45 v0 rfl rfl) h0
  clear hA0 hval0 hsm
  refine (frameOwn_walk hG hLw ver0 ty0 fl0 st0 ln0 A0 n0 c0 xs0 bs0 ⟨b0.ver0, b0.ver1, b0.ty0, b0.ty1, b0.fl0, b0.fl1, b0.st0, b0.st1, b0.ln0, b0.ln1⟩ (Nat.le_trans (bulk_frame hdb0) z0)).mono fun e W' ⟨he, bel⟩ => ?_
  subst he
  exact ⟨_, rfl, _, _, _, [], _, [], hW', trodAll_mk1 (shut_bool Tryd.underlying4 _), trodAll_cons_mk (Below.trod laidOut (by kernel_rfl) (of_decide_eq_true (by kernel_rfl)) k0 bel lt0) (trodAll_mk0), rfl, bel.frame _, fun h => by cases h⟩

theorem said : Rows.FrameOwnUptoSaid :=
  OpenClaim.holds_of_cond 7 Tryd.f7 rfl rfl rfl rfl rfl rfl rfl ⟨rfl, rfl, rfl, rfl, rfl⟩ rfl rfl rfl rfl rfl named Tryd.func7 facts inst wrap
    (fun os started H enc _ F0 => by rw [OpenClaim.pre_eq_preRow]; exact lifted os started H enc F0)
/-- The card. -/
theorem card : Rows.FrameOwnUptoCardSaid :=
  Claim7.holds_tied_plain_at .later [] _ _ _ _ said (fun _ h => by cases h) wfT (fun _ h => by cases h) frameOwnUpto_row_tie rfl ⟨rfl, rfl⟩ (by kernel_rfl) rfl plain noGo
end Go.Proofs.YtfddhipdedcacaaDoor.frameOwnUpto
namespace Go.Proofs.YtfddhipdedcacaaDoor
theorem frameOwnUpto_card : Rows.FrameOwnUptoCardSaid := frameOwnUpto.card
end Go.Proofs.YtfddhipdedcacaaDoor
