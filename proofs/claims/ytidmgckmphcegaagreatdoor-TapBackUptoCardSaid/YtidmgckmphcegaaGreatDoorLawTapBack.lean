/-
  A frame that has a line is read back from it; two frames that have lines have one line just if they are equal; a frame has none just if frame.Bytes refuses it: the law TapBack returns true. Where what the call reads is of bulk at most 1048576. The listed package variables hold what the program's text lays (the card ties them); no other condition.
-/
import Derived.Test.YtidmgckmphcegaaGreatDoorRowTapBack
import Derived.Test.YtidmgckmphcegaaGreatDoorTie
import Derived.Test.YtidmgckmphcegaaGreatDoorMB
import Derived.Test.YtidmgckmphcegaaGreatDoorTBack
import Derived.Test.YtidmgckmphcegaaGreatDoorMM
import Derived.Test.YtidmgckmphcegaaGreatDoorMD
namespace Go.Proofs.YtidmgckmphcegaaGreatDoor.tapBackUpto
open Go.ChangeShapes Go.WideShapes Go.ChangeAt Go.RowKit Go.Joins Go.Deep
set_option linter.unusedVariables false


theorem of_laid {W : World} (h : laidMetH Tryz.prog Rows.tapBackUptoRow.laid W) (hs : W.ShapedOpen Tryz.prog) : ∃ sa, TE sa W := by
  have h' := (laidMetH_iff.1 h).1
  obtain ⟨sa, hg⟩ := good_of h' fun n h1 h2 => List.mem_filter.2 ⟨mem_all h1 h2, rfl⟩
  exact ⟨sa, hg, lawful_of h' (List.mem_filter.2 ⟨List.mem_of_getElem? (i := 49) rfl, rfl⟩), pow10_of h' (List.mem_filter.2 ⟨List.mem_of_getElem? (i := 2) rfl, rfl⟩), words_of h' (List.mem_filter.2 ⟨List.mem_of_getElem? (i := 50) rfl, rfl⟩), ert_of h (List.mem_of_getElem? (i := 4) rfl), ner_of h' (List.mem_filter.2 ⟨List.mem_of_getElem? (i := 48) rfl, rfl⟩) (List.mem_filter.2 ⟨List.mem_of_getElem? (i := 47) rfl, rfl⟩), mxl_of hs⟩

set_option maxRecDepth 100000 in
theorem lifted (os : Os) (started : os.Started) (H : Type) (enc : TypeId × Value → H) (Fi : Stop.Interp) :
    ReturnsInHanded {} Tryz.checked os 6 .any ((Rows.OpenSpec.upto Rows.tapBackSpec).preRow enc Tryz.prog Tryz.f6 [] false Rows.tapBackUptoRow.laid)
      (((Rows.OpenSpec.upto Rows.tapBackSpec).at Fi).post enc Tryz.prog Tryz.f6 false true false false) := by
  refine returnsInHanded_of_row (C := Tryz.checked) (s := (Rows.OpenSpec.upto Rows.tapBackSpec)) own started (by kernel_rfl) Tryz.func6 (wit os H enc) ?_
  intro W base args ds gs before hval0 hW _ hkk _ hL hSh _
  have hval : ∀ (j : Nat) t v, Tryz.f6.params[j]? = some t → args[j]? = some v → Value.okWide Tryz.prog W .any base t v := hval0
  have hW' := hW
  have hsm : Rows.uptoSmall H (ds ++ gs) = true := hkk _ rfl
  obtain ⟨p, q, hA0, hV, rfl, hfz, hnd⟩ := hW
  have hA : DataW.TrodAll enc Tryz.prog W 0 (fun _ => true) true Tryz.f6.params.toList args.toList ds p := hA0
  rw [Tryz.params6] at hA hval
  obtain ⟨v0, vs0, d0, ds0, p0, q0, hargs, rfl, rfl, h0, r0⟩ := trodAll_cons hA
  obtain ⟨v1, vs1, d1, ds1, p1, q1, rfl, rfl, rfl, h1, r1⟩ := trodAll_cons r0
  obtain ⟨rfl, rfl, rfl⟩ := trodAll_nil r1
  obtain rfl : args = #[v0, v1] := by cases args; simp_all
  obtain ⟨rfl, rfl⟩ := trodVars_none hV
  obtain ⟨sa, hE⟩ := of_laid hL hSh
  have k0 := h0
  have lt0 : ∀ x ∈ p0, x.block < W.heap.size := by obtain ⟨m, hm⟩ := k0; exact DataW.trod_lt m _ _ _ hm
  have z0 := bulk_arg hsm (j := 0) rfl
  obtain ⟨ver0, ty0, fl0, st0, ln0, A0, n0, c0, xs0, rfl, bs0, b0, dh0, db0, rfl, _, hdb0⟩ := open_frame (hval 0 28 v0 rfl rfl) h0
  have k1 := h1
  have lt1 : ∀ x ∈ p1, x.block < W.heap.size := by obtain ⟨m, hm⟩ := k1; exact DataW.trod_lt m _ _ _ hm
  have z1 := bulk_arg hsm (j := 1) rfl
  obtain ⟨ver1, ty1, fl1, st1, ln1, A1, n1, c1, xs1, rfl, bs1, b1, dh1, db1, rfl, _, hdb1⟩ := open_frame (hval 1 28 v1 rfl rfl) h1
  clear hA0 hval0 hsm
  obtain ⟨ver0, rfl⟩ := Int.eq_ofNat_of_zero_le b0.ver0
  obtain ⟨ty0, rfl⟩ := Int.eq_ofNat_of_zero_le b0.ty0
  obtain ⟨fl0, rfl⟩ := Int.eq_ofNat_of_zero_le b0.fl0
  obtain ⟨st0, rfl⟩ := Int.eq_ofNat_of_zero_le b0.st0
  obtain ⟨ln0, rfl⟩ := Int.eq_ofNat_of_zero_le b0.ln0
  obtain ⟨ver1, rfl⟩ := Int.eq_ofNat_of_zero_le b1.ver0
  obtain ⟨ty1, rfl⟩ := Int.eq_ofNat_of_zero_le b1.ty0
  obtain ⟨fl1, rfl⟩ := Int.eq_ofNat_of_zero_le b1.fl0
  obtain ⟨st1, rfl⟩ := Int.eq_ofNat_of_zero_le b1.st0
  obtain ⟨ln1, rfl⟩ := Int.eq_ofNat_of_zero_le b1.ln0
  refine (tapBack_walk hE ⟨ver0, ty0, fl0, st0, ln0⟩ ⟨ver1, ty1, fl1, st1, ln1⟩ ⟨by have := b0.ver1; show ver0 < 256; omega, by have := b0.ty1; show ty0 < 256; omega, by have := b0.fl1; show fl0 < 65536; omega, by have := b0.st1; show st0 < 4294967296; omega, by have := b0.ln1; show ln0 < 4294967296; omega⟩ ⟨by have := b1.ver1; show ver1 < 256; omega, by have := b1.ty1; show ty1 < 256; omega, by have := b1.fl1; show fl1 < 65536; omega, by have := b1.st1; show st1 < 4294967296; omega, by have := b1.ln1; show ln1 < 4294967296; omega⟩ A0 n0 c0 xs0 bs0 (Nat.le_trans (bulk_frame hdb0) z0) A1 n1 c1 xs1 bs1 (Nat.le_trans (bulk_frame hdb1) z1)).mono fun e W' ⟨he, bel⟩ => ?_
  subst he
  exact ⟨_, rfl, _, _, _, [], _, [], hW', trodAll_mk1 (shut_bool Tryz.underlying4 _), trodAll_cons_mk (Below.trod laidOut (by kernel_rfl) (of_decide_eq_true (by kernel_rfl)) k0 bel lt0) (trodAll_cons_mk (Below.trod laidOut (by kernel_rfl) (of_decide_eq_true (by kernel_rfl)) k1 bel lt1) (trodAll_mk0)), rfl, bel.frame _, fun h => by cases h⟩

theorem said : Rows.TapBackUptoSaid :=
  OpenClaim.holds_of_cond 6 Tryz.f6 rfl rfl rfl rfl rfl rfl rfl ⟨rfl, rfl, rfl, rfl, rfl⟩ rfl rfl rfl rfl rfl named Tryz.func6 facts inst wrap
    (fun os started H enc _ F0 => by rw [OpenClaim.pre_eq_preRow]; exact lifted os started H enc F0)
/-- The card. -/
theorem card : Rows.TapBackUptoCardSaid :=
  Claim7.holds_tied_plain_at .later [] _ _ _ _ said (fun _ h => by cases h) wfT (fun _ h => by cases h) tapBackUpto_row_tie rfl ⟨rfl, rfl⟩ (by kernel_rfl) rfl plain noGo
end Go.Proofs.YtidmgckmphcegaaGreatDoor.tapBackUpto
namespace Go.Proofs.YtidmgckmphcegaaGreatDoor

theorem tapBackUpto_card : Rows.TapBackUptoCardSaid := tapBackUpto.card
end Go.Proofs.YtidmgckmphcegaaGreatDoor
