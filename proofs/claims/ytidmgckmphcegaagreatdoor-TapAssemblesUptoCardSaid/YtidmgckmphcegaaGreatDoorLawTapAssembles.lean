/-
  Every text's bytes, or its error, are the document's: the law TapAssembles returns true. Where what the call reads is of bulk at most 1048576. The listed package variables hold what the program's text lays (the card ties them); no other condition.
-/
import Derived.Test.YtidmgckmphcegaaGreatDoorRowTapAssembles
import Derived.Test.YtidmgckmphcegaaGreatDoorTie
import Derived.Test.YtidmgckmphcegaaGreatDoorMB
import Derived.Test.YtidmgckmphcegaaGreatDoorTAssem
import Derived.Test.YtidmgckmphcegaaGreatDoorMM
namespace Go.Proofs.YtidmgckmphcegaaGreatDoor.tapAssemblesUpto
open Go.ChangeShapes Go.WideShapes Go.ChangeAt Go.RowKit Go.Joins Go.Deep
set_option linter.unusedVariables false


theorem of_laid {W : World} (h : laidMetH Tryz.prog Rows.tapAssemblesUptoRow.laid W) (hs : W.ShapedOpen Tryz.prog) : ∃ sa, TE sa W := by
  have h' := (laidMetH_iff.1 h).1
  obtain ⟨sa, hg⟩ := good_of h' fun n h1 h2 h3 => List.mem_filter.2 ⟨mem_all h1 h2 h3, rfl⟩
  exact ⟨sa, hg, lawful_of h' (List.mem_filter.2 ⟨List.mem_of_getElem? (i := 49) rfl, rfl⟩), pow10_of h' (List.mem_filter.2 ⟨List.mem_of_getElem? (i := 2) rfl, rfl⟩), words_of h' (List.mem_filter.2 ⟨List.mem_of_getElem? (i := 50) rfl, rfl⟩), ert_of h (List.mem_of_getElem? (i := 4) rfl), ner_of h' (List.mem_filter.2 ⟨List.mem_of_getElem? (i := 48) rfl, rfl⟩) (List.mem_filter.2 ⟨List.mem_of_getElem? (i := 47) rfl, rfl⟩), mxl_of hs⟩

set_option maxRecDepth 100000 in
theorem lifted (os : Os) (started : os.Started) (H : Type) (enc : TypeId × Value → H) (Fi : Stop.Interp) :
    ReturnsInHanded {} Tryz.checked os 5 .any ((Rows.OpenSpec.upto Rows.tapAssemblesSpec).preRow enc Tryz.prog Tryz.f5 [] false Rows.tapAssemblesUptoRow.laid)
      (((Rows.OpenSpec.upto Rows.tapAssemblesSpec).at Fi).post enc Tryz.prog Tryz.f5 false true false false) := by
  refine returnsInHanded_of_row (C := Tryz.checked) (s := (Rows.OpenSpec.upto Rows.tapAssemblesSpec)) own started (by kernel_rfl) Tryz.func5 (wit os H enc) ?_
  intro W base args ds gs before hval0 hW _ hkk _ hL hSh _
  have hval : ∀ (j : Nat) t v, Tryz.f5.params[j]? = some t → args[j]? = some v → Value.okWide Tryz.prog W .any base t v := hval0
  have hW' := hW
  have hsm : Rows.uptoSmall H (ds ++ gs) = true := hkk _ rfl
  obtain ⟨p, q, hA0, hV, rfl, hfz, hnd⟩ := hW
  have hA : DataW.TrodAll enc Tryz.prog W 0 (fun _ => true) true Tryz.f5.params.toList args.toList ds p := hA0
  rw [Tryz.params5] at hA hval
  obtain ⟨v0, vs0, d0, ds0, p0, q0, hargs, rfl, rfl, h0, r0⟩ := trodAll_cons hA
  obtain ⟨rfl, rfl, rfl⟩ := trodAll_nil r0
  obtain rfl : args = #[v0] := by cases args; simp_all
  obtain ⟨rfl, rfl⟩ := trodVars_none hV
  obtain ⟨sa, hE⟩ := of_laid hL hSh
  have k0 := h0
  have lt0 : ∀ x ∈ p0, x.block < W.heap.size := by obtain ⟨m, hm⟩ := k0; exact DataW.trod_lt m _ _ _ hm
  have z0 := bulk_arg hsm (j := 0) rfl
  obtain ⟨s0, rfl, u0⟩ := open_string (hval 0 9 v0 rfl rfl) h0
  clear hA0 hval0 hsm
  refine (tapAssembles_walk hE s0 (by omega)).mono fun e W' ⟨he, bel⟩ => ?_
  subst he
  exact ⟨_, rfl, _, _, _, [], _, [], hW', trodAll_mk1 (shut_bool Tryz.underlying4 _), trodAll_cons_mk (Below.trod laidOut (by kernel_rfl) (of_decide_eq_true (by kernel_rfl)) k0 bel lt0) (trodAll_mk0), rfl, bel.frame _, fun h => by cases h⟩

theorem said : Rows.TapAssemblesUptoSaid :=
  OpenClaim.holds_of_cond 5 Tryz.f5 rfl rfl rfl rfl rfl rfl rfl ⟨rfl, rfl, rfl, rfl, rfl⟩ rfl rfl rfl rfl rfl named Tryz.func5 facts inst wrap
    (fun os started H enc _ F0 => by rw [OpenClaim.pre_eq_preRow]; exact lifted os started H enc F0)
/-- The card. -/
theorem card : Rows.TapAssemblesUptoCardSaid :=
  Claim7.holds_tied_plain_at .later [] _ _ _ _ said (fun _ h => by cases h) wfT (fun _ h => by cases h) tapAssemblesUpto_row_tie rfl ⟨rfl, rfl⟩ (by kernel_rfl) rfl plain noGo
end Go.Proofs.YtidmgckmphcegaaGreatDoor.tapAssemblesUpto
namespace Go.Proofs.YtidmgckmphcegaaGreatDoor

theorem tapAssemblesUpto_card : Rows.TapAssemblesUptoCardSaid := tapAssemblesUpto.card
end Go.Proofs.YtidmgckmphcegaaGreatDoor
