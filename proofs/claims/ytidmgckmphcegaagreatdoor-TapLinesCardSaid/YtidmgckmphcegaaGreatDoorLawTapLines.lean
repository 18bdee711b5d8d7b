/-
  Every frame's line, or its error, is the document's: the law TapLines returns true. The listed package variables hold what the program's text lays (the card ties them); no other condition.
-/
import Derived.Test.YtidmgckmphcegaaGreatDoorRowTapLines
import Derived.Test.YtidmgckmphcegaaGreatDoorTie
import Derived.Test.YtidmgckmphcegaaGreatDoorMB
import Derived.Test.YtidmgckmphcegaaGreatDoorTLines
import Derived.Test.YtidmgckmphcegaaGreatDoorMM
import Derived.Test.YtidmgckmphcegaaGreatDoorMD
namespace Go.Proofs.YtidmgckmphcegaaGreatDoor.tapLines
open Go.ChangeShapes Go.WideShapes Go.ChangeAt Go.RowKit Go.Joins Go.Deep
set_option linter.unusedVariables false


theorem of_laid {W : World} (h : laidMetH Tryz.prog Rows.tapLinesRow.laid W) (hs : W.ShapedOpen Tryz.prog) : ∃ sa, TE sa W := by
  have h' := (laidMetH_iff.1 h).1
  obtain ⟨sa, hg⟩ := good_of h' fun n h1 h2 => List.mem_filter.2 ⟨mem_all h1 h2, rfl⟩
  exact ⟨sa, hg, lawful_of h' (List.mem_filter.2 ⟨List.mem_of_getElem? (i := 49) rfl, rfl⟩), pow10_of h' (List.mem_filter.2 ⟨List.mem_of_getElem? (i := 2) rfl, rfl⟩), words_of h' (List.mem_filter.2 ⟨List.mem_of_getElem? (i := 50) rfl, rfl⟩), ert_of h (List.mem_of_getElem? (i := 4) rfl), ner_of h' (List.mem_filter.2 ⟨List.mem_of_getElem? (i := 48) rfl, rfl⟩) (List.mem_filter.2 ⟨List.mem_of_getElem? (i := 47) rfl, rfl⟩), mxl_of hs⟩

set_option maxRecDepth 100000 in
theorem lifted (os : Os) (started : os.Started) (H : Type) (enc : TypeId × Value → H) (Fi : Stop.Interp) :
    ReturnsInHanded {} Tryz.checked os 3 .any ((OpenSpec.ofChange Rows.tapLinesSpec).preRow enc Tryz.prog Tryz.f3 [] false Rows.tapLinesRow.laid)
      (((OpenSpec.ofChange Rows.tapLinesSpec).at Fi).post enc Tryz.prog Tryz.f3 false true false false) := by
  refine returnsInHanded_of_row (C := Tryz.checked) (s := (OpenSpec.ofChange Rows.tapLinesSpec)) own started (by kernel_rfl) Tryz.func3 (wit os H enc) ?_
  intro W base args ds gs before hval0 hW _ hkk hsz0 hL hSh _
  have hval : ∀ (j : Nat) t v, Tryz.f3.params[j]? = some t → args[j]? = some v → Value.okWide Tryz.prog W .any base t v := hval0
  have hW' := hW
  have hsz : (DataW.weightsEach Tryz.prog (Tryz.f3.params.toList ++ Rows.tapLinesSpec.plain.varTypes Tryz.prog) (ds ++ gs)).all (· ≤ reachBytes) = true := hsz0
  obtain ⟨p, q, hA0, hV, rfl, hfz, hnd⟩ := hW
  have hA : DataW.TrodAll enc Tryz.prog W 0 (fun _ => true) true Tryz.f3.params.toList args.toList ds p := hA0
  rw [Tryz.params3] at hA hval hsz
  obtain ⟨v0, vs0, d0, ds0, p0, q0, hargs, rfl, rfl, h0, r0⟩ := trodAll_cons hA
  obtain ⟨rfl, rfl, rfl⟩ := trodAll_nil r0
  obtain rfl : args = #[v0] := by cases args; simp_all
  obtain ⟨rfl, rfl⟩ := trodVars_none hV
  obtain ⟨sa, hE⟩ := of_laid hL hSh
  have k0 := h0
  have lt0 : ∀ x ∈ p0, x.block < W.heap.size := by obtain ⟨m, hm⟩ := k0; exact DataW.trod_lt m _ _ _ hm
  obtain ⟨ver0, ty0, fl0, st0, ln0, A0, n0, c0, xs0, rfl, bs0, b0, dh0, db0, rfl, _, hdb0⟩ := open_frame (hval 0 28 v0 rfl rfl) h0
  clear hA0 hval0 hsz0
  obtain ⟨ver0, rfl⟩ := Int.eq_ofNat_of_zero_le b0.ver0
  obtain ⟨ty0, rfl⟩ := Int.eq_ofNat_of_zero_le b0.ty0
  obtain ⟨fl0, rfl⟩ := Int.eq_ofNat_of_zero_le b0.fl0
  obtain ⟨st0, rfl⟩ := Int.eq_ofNat_of_zero_le b0.st0
  obtain ⟨ln0, rfl⟩ := Int.eq_ofNat_of_zero_le b0.ln0
  refine (tapLines_walk hE ⟨ver0, ty0, fl0, st0, ln0⟩ ⟨by have := b0.ver1; show ver0 < 256; omega, by have := b0.ty1; show ty0 < 256; omega, by have := b0.fl1; show fl0 < 65536; omega, by have := b0.st1; show st0 < 4294967296; omega, by have := b0.ln1; show ln0 < 4294967296; omega⟩ A0 n0 c0 xs0 bs0 (Nat.le_trans (sized_frame hsz (j := 0) rfl rfl hdb0) (by omega))).mono fun e W' ⟨he, bel⟩ => ?_
  subst he
  exact ⟨_, rfl, _, _, _, [], _, [], hW', trodAll_mk1 (shut_bool Tryz.underlying4 _), trodAll_cons_mk (Below.trod laidOut (by kernel_rfl) (of_decide_eq_true (by kernel_rfl)) k0 bel lt0) (trodAll_mk0), rfl, bel.frame _, fun h => by cases h⟩

theorem said : Rows.TapLinesSaid :=
  OpenClaim.holds_of_cond 3 Tryz.f3 rfl rfl rfl rfl rfl rfl rfl ⟨rfl, rfl, rfl, rfl, rfl⟩ rfl rfl rfl rfl rfl named Tryz.func3 facts inst wrap
    (fun os started H enc _ F0 => by rw [OpenClaim.pre_eq_preRow]; exact lifted os started H enc F0)
/-- The card. -/
theorem card : Rows.TapLinesCardSaid :=
  Claim7.holds_tied_plain_at .later [] _ _ _ _ said (fun _ h => by cases h) wfT (fun _ h => by cases h) tapLines_row_tie rfl ⟨rfl, rfl⟩ (by kernel_rfl) rfl plain noGo
end Go.Proofs.YtidmgckmphcegaaGreatDoor.tapLines
namespace Go.Proofs.YtidmgckmphcegaaGreatDoor

theorem tapLines_card : Rows.TapLinesCardSaid := tapLines.card
end Go.Proofs.YtidmgckmphcegaaGreatDoor
