/-
  session's Check, Cap and New answer what the document's Check and Cap answer, for every configuration; the document's run comes out as written: the law SessionChecks returns true. The listed package variables hold what the program's text lays (the card ties them); no other condition.
-/
import Derived.Test.YtnpmafnhbbaokaaGreatDoorRowSessionChecks
import Derived.Test.YtnpmafnhbbaokaaGreatDoorTie
import Derived.Test.YtnpmafnhbbaokaaGreatDoorOfLaid
import Derived.Test.YtnpmafnhbbaokaaGreatDoorSChecks
import Derived.Test.YtnpmafnhbbaokaaGreatDoorSLaid
namespace Go.Proofs.YtnpmafnhbbaokaaGreatDoor.sessionChecks
open Go.ChangeShapes Go.WideShapes Go.ChangeAt Go.RowKit Go.Joins Go.Deep
set_option linter.unusedVariables false


theorem of_laid {W : World} (h : laidMetH Tryz.prog Rows.sessionChecksRow.laid W) : ∃ sa, Good W sa ∧ Par W ∧ Stt W ∧ Frm W := by
  have h' := (laidMetH_iff.1 h).1
  obtain ⟨sa, hs⟩ := good_of h' fun n h1 h2 h3 => List.mem_filter.2 ⟨mem_all h1 h2 h3, rfl⟩
  exact ⟨sa, hs, par_of h' (List.mem_filter.2 ⟨List.mem_of_getElem? (i := 43) rfl, rfl⟩), stt_of h' (List.mem_filter.2 ⟨List.mem_of_getElem? (i := 45) rfl, rfl⟩), frm_of h' (List.mem_filter.2 ⟨List.mem_of_getElem? (i := 44) rfl, rfl⟩)⟩

set_option maxRecDepth 100000 in
theorem lifted (os : Os) (started : os.Started) (H : Type) (enc : TypeId × Value → H) :
    ReturnsInHanded {} Tryz.checked os 3 .any (fun w args => (Rows.sessionChecksSpec.pre enc Tryz.prog Tryz.f3 [] false w args ∧ laidMetH Tryz.prog Rows.sessionChecksRow.laid w) ∧ sizedMet enc Tryz.prog Tryz.f3 (OpenSpec.ofChange Rows.sessionChecksSpec) false w args)
      (Rows.sessionChecksSpec.post enc Tryz.prog Tryz.f3 false true false false) := by
  refine returnsInHanded_of_change_and (C := Tryz.checked) (X := fun w _ => laidMetH Tryz.prog Rows.sessionChecksRow.laid w) (fun _ _ _ hh h => h.of_heap hh) own started (by kernel_rfl) Tryz.func3 (wit os H enc) ?_
  intro W base args ds gs before hval0 hW _ hsz0 hL _
  have hval : ∀ (j : Nat) t v, Tryz.f3.params[j]? = some t → args[j]? = some v → Value.okWide Tryz.prog W .any base t v := hval0
  have hW' := hW
  obtain ⟨p, q, hA0, hV, rfl, hfz, hnd⟩ := hW
  have hA : DataW.TrodAll enc Tryz.prog W 0 (fun _ => true) true Tryz.f3.params.toList args.toList ds p := hA0
  have hsz : (DataW.weightsEach Tryz.prog (Tryz.f3.params.toList ++ Rows.sessionChecksSpec.plain.varTypes Tryz.prog) (ds ++ gs)).all (· ≤ reachBytes) = true := hsz0
  rw [Tryz.params3] at hA hval hsz
  obtain ⟨v0, vs0, d0, ds0, p0, q0, hargs, rfl, rfl, h0, r0⟩ := trodAll_cons hA
  obtain ⟨rfl, rfl, rfl⟩ := trodAll_nil r0
  obtain rfl : args = #[v0] := by cases args; simp_all
  obtain ⟨rfl, rfl⟩ := trodVars_none hV
  obtain ⟨sa, hG, hPr, hSt, hFm⟩ := of_laid hL
  have k0 := h0
  have lt0 : ∀ x ∈ p0, x.block < W.heap.size := by obtain ⟨m, hm⟩ := k0; exact DataW.trod_lt m _ _ _ hm
  obtain ⟨cc0, rfl⟩ := open_config (hval 0 23 v0 rfl rfl) h0
  clear hA0 hval0 hsz0
  refine (sessionChecks_walk hG hPr hSt hFm cc0).mono fun e W' ⟨he, bel⟩ => ?_
  subst he
  exact ⟨_, rfl, _, _, _, [], _, [], hW', trodAll_mk1 (shut_bool Tryz.underlying4 _), trodAll_cons_mk (Below.trod laidOut (by kernel_rfl) (of_decide_eq_true (by kernel_rfl)) k0 bel lt0) (trodAll_mk0), rfl, bel.frame _, fun h => by cases h⟩

theorem said : Rows.SessionChecksSaid :=
  OpenClaim.holds_of_wide 3 Tryz.f3 rfl rfl rfl rfl rfl rfl rfl ⟨rfl, rfl, rfl, rfl, rfl⟩ rfl rfl rfl rfl rfl named Tryz.func3 facts inst wrap
    (fun os started H enc _ => lifted os started H enc)
/-- The card. -/
theorem card : Rows.SessionChecksCardSaid :=
  Claim7.holds_tied_plain_at .later [] _ _ _ _ said (fun _ h => by cases h) wfT (fun _ h => by cases h) sessionChecks_row_tie rfl ⟨rfl, rfl⟩ (by kernel_rfl) rfl plain noGo
end Go.Proofs.YtnpmafnhbbaokaaGreatDoor.sessionChecks
namespace Go.Proofs.YtnpmafnhbbaokaaGreatDoor

theorem sessionChecks_card : Rows.SessionChecksCardSaid := sessionChecks.card
end Go.Proofs.YtnpmafnhbbaokaaGreatDoor
