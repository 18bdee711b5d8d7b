/-
  Never more than 11 bytes and the most payload are held; fed just what it wants a decoder gives at most one frame a call: the law FeedBounds returns true. The listed package variables hold what the program's text lays (the card ties them); no other condition.
-/
import Derived.Test.YtfddhipdedcacaaDoorRowFeedBounds
import Derived.Test.YtfddhipdedcacaaDoorTie
import Derived.Test.YtfddhipdedcacaaDoorMB
import Derived.Test.YtfddhipdedcacaaDoorMC
namespace Go.Proofs.YtfddhipdedcacaaDoor.feedBounds
open Go.ChangeShapes Go.WideShapes Go.ChangeAt Go.RowKit Go.Joins Go.Deep
set_option linter.unusedVariables false


theorem of_laid {W : World} (h : laidMetH Tryd.prog Rows.feedBoundsRow.laid W) : ∃ sa, Good W sa ∧ Lawful W ∧ ErT W := by
  have h' := (laidMetH_iff.1 h).1
  obtain ⟨sa, hs⟩ := good_of h' fun n h1 h2 => List.mem_filter.2 ⟨mem_all h1 h2, rfl⟩
  exact ⟨sa, hs, lawful_of h' (List.mem_filter.2 ⟨List.mem_of_getElem? (i := 43) rfl, rfl⟩), ert_of h (List.mem_of_getElem? (i := 0) rfl)⟩

set_option maxRecDepth 100000 in
theorem lifted (os : Os) (started : os.Started) (H : Type) (enc : TypeId × Value → H) :
    ReturnsInHanded {} Tryd.checked os 11 .any (fun w args => (Rows.feedBoundsSpec.pre enc Tryd.prog Tryd.f11 [] false w args ∧ laidMetH Tryd.prog Rows.feedBoundsRow.laid w) ∧ sizedMet enc Tryd.prog Tryd.f11 (OpenSpec.ofChange Rows.feedBoundsSpec) false w args)
      (Rows.feedBoundsSpec.post enc Tryd.prog Tryd.f11 false true false false) := by
  refine returnsInHanded_of_change_and (C := Tryd.checked) (X := fun w _ => laidMetH Tryd.prog Rows.feedBoundsRow.laid w) (fun _ _ _ hh h => h.of_heap hh) own started (by kernel_rfl) Tryd.func11 (wit os H enc) ?_
  intro W base args ds gs before hval0 hW _ hsz0 hL _
  have hval : ∀ (j : Nat) t v, Tryd.f11.params[j]? = some t → args[j]? = some v → Value.okWide Tryd.prog W .any base t v := hval0
  have hW' := hW
  obtain ⟨p, q, hA0, hV, rfl, hfz, hnd⟩ := hW
  have hA : DataW.TrodAll enc Tryd.prog W 0 (fun _ => true) true Tryd.f11.params.toList args.toList ds p := hA0
  have hsz : (DataW.weightsEach Tryd.prog (Tryd.f11.params.toList ++ Rows.feedBoundsSpec.plain.varTypes Tryd.prog) (ds ++ gs)).all (· ≤ reachBytes) = true := hsz0
  rw [Tryd.params11] at hA hval hsz
  obtain ⟨v0, vs0, d0, ds0, p0, q0, hargs, rfl, rfl, h0, r0⟩ := trodAll_cons hA
  obtain ⟨v1, vs1, d1, ds1, p1, q1, rfl, rfl, rfl, h1, r1⟩ := trodAll_cons r0
  obtain ⟨rfl, rfl, rfl⟩ := trodAll_nil r1
  obtain rfl : args = #[v0, v1] := by cases args; simp_all
  obtain ⟨rfl, rfl⟩ := trodVars_none hV
  obtain ⟨sa, hG, hLw, hEt⟩ := of_laid hL
  have k0 := h0
  have lt0 : ∀ x ∈ p0, x.block < W.heap.size := by obtain ⟨m, hm⟩ := k0; exact DataW.trod_lt m _ _ _ hm
  obtain ⟨a0, rfl, _, _, w0⟩ := open_int Tryd.underlying3 (hval 0 3 v0 rfl rfl) h0
  have k1 := h1
  have lt1 : ∀ x ∈ p1, x.block < W.heap.size := by obtain ⟨m, hm⟩ := k1; exact DataW.trod_lt m _ _ _ hm
  obtain ⟨A1, n1, c1, xs1, rfl, b1⟩ := open_bytes (hval 1 38 v1 rfl rfl) h1
  clear hA0 hval0 hsz0
  refine (feedBounds_walk hG hLw hEt a0 A1 n1 c1 xs1 b1 (sized_bytes hsz (j := 1) rfl rfl k1)).mono fun e W' ⟨he, bel⟩ => ?_
  subst he
  exact ⟨_, rfl, _, _, _, [], _, [], hW', trodAll_mk1 (shut_bool Tryd.underlying4 _), trodAll_cons_mk (Below.trod laidOut (by kernel_rfl) (of_decide_eq_true (by kernel_rfl)) k0 bel lt0) (trodAll_cons_mk (Below.trod laidOut (by kernel_rfl) (of_decide_eq_true (by kernel_rfl)) k1 bel lt1) (trodAll_mk0)), rfl, bel.frame _, fun h => by cases h⟩

theorem said : Rows.FeedBoundsSaid :=
  OpenClaim.holds_of_wide 11 Tryd.f11 rfl rfl rfl rfl rfl rfl rfl ⟨rfl, rfl, rfl, rfl, rfl⟩ rfl rfl rfl rfl rfl named Tryd.func11 facts inst wrap
    (fun os started H enc _ => lifted os started H enc)
/-- The card. -/
theorem card : Rows.FeedBoundsCardSaid :=
  Claim7.holds_tied_plain_at .later [] _ _ _ _ said (fun _ h => by cases h) wfT (fun _ h => by cases h) feedBounds_row_tie rfl ⟨rfl, rfl⟩ (by kernel_rfl) rfl plain noGo
end Go.Proofs.YtfddhipdedcacaaDoor.feedBounds
namespace Go.Proofs.YtfddhipdedcacaaDoor
theorem feedBounds_card : Rows.FeedBoundsCardSaid := feedBounds.card
end Go.Proofs.YtfddhipdedcacaaDoor
