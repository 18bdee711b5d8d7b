/-
  The closed facts of the row TapAgain (upto): its cells, one input that fits.
-/
import Derived.Test.YtidmgckmphcegaaGreatDoorCards
import Derived.Test.YtidmgckmphcegaaGreatDoorMA
import Derived.Test.YtidmgckmphcegaaGreatDoorMN
import Derived.WalkKit
import Derived.ProofKit
import Derived.OpenShut
import Derived.LaidMore
import Derived.LaidSub
import Derived.SevenTiedAt
import Derived.Stop.Joined
import Derived.JoinedOf
import Derived.MakeChecks
import Derived.Lib.SmallJoins
import Derived.Deep.Fields
import Derived.JoinedCond
import Derived.Deep.DeepWitnessRowRef
namespace Go.Proofs.YtidmgckmphcegaaGreatDoor.tapAgainUpto
open Go.ChangeShapes Go.WideShapes Go.ChangeAt Go.RowKit Go.Joins Go.Deep
set_option linter.unusedVariables false


theorem own : ownKnob Tryz.prog.godebug = none := by kernel_rfl
theorem laidOut : laidOutB Tryz.prog = true := by kernel_rfl
theorem door_met (os : Os) : laidMetH Tryz.prog Rows.tapAgainUptoRow.laid ((tW os).forCall (fun _ _ => 0) ⟨#[], #[.int .i64 0, .slice none 0 0, .int .i64 0], []⟩).memory := t_laid os #[.int .i64 0, .slice none 0 0, .int .i64 0]
set_option maxHeartbeats 16000000 in
theorem okin (os : Os) : Input.okWideB Tryz.checked.prog ((tW os).forCall (fun _ _ => 0) ⟨#[], #[.int .i64 0, .slice none 0 0, .int .i64 0], []⟩) 9 ⟨#[], #[.int .i64 0, .slice none 0 0, .int .i64 0], []⟩ = true := by kernel_rfl
theorem and_t {a b : Bool} (h : a = true) (k : b = true) : (a && b) = true := by rw [h, k]; rfl
set_option maxHeartbeats 16000000 in
theorem facts : joinedFacts Tryz.pinned.checked.prog 9 Tryz.f9 (Rows.OpenSpec.upto Rows.tapAgainSpec).bare Rows.tapAgainUptoRow = true := by
  unfold joinedFacts
  repeat' (with_reducible refine and_t ?_ ?_)
  all_goals (as_aux_lemma => kernel_rfl)
theorem named : Tryz.pinned.checked.prog.funcNamed Rows.tapAgainUptoRow.func = some 9 := by kernel_rfl
theorem inst : Tryz.f9.isInstance Tryz.pinned.checked.prog Rows.tapAgainUptoRow.origin Rows.tapAgainUptoRow.targs := of_decide_eq_true (by kernel_rfl)
theorem wrap : Tryz.f9.isWrapper Tryz.pinned.checked.prog Rows.tapAgainUptoRow.wrapper Rows.tapAgainUptoRow.mainSum := by unfold Func.isWrapper; first | (rw [if_pos (by decide +kernel)]; kernel_rfl) | (rw [if_neg (by decide +kernel)]; exact ⟨rfl, rfl⟩)
set_option maxHeartbeats 16000000 in
theorem wfT : Rows.tapAgainUptoRow.wfByText (Rows.OpenSpec.upto Rows.tapAgainSpec) = true := by kernel_rfl
set_option maxHeartbeats 16000000 in
theorem noGo : false = Rows.tapAgainUptoRow.goesBy Tryz.pinned.checked.prog := by kernel_rfl
set_option maxHeartbeats 16000000 in
theorem looks : true = Tryz.pinned.checked.prog.looks [] := by kernel_rfl
theorem plain (f : FuncId) (fn : Func) (hf : Tryz.pinned.checked.prog.funcNamed Rows.tapAgainUptoRow.func = some f) (hfn : Tryz.pinned.checked.prog.funcs[f]? = some fn) :
    true = Tryz.pinned.checked.prog.looks [] ∧ ∀ (j : Nat) t, fn.params[j]? = some t → Tryz.pinned.checked.prog.wantsStandIn t = false := by
  obtain rfl : f = 9 := Option.some.inj (named.symm.trans hf) |>.symm
  obtain rfl : fn = Tryz.f9 := (Option.some.inj (Tryz.func9.symm.trans hfn)).symm
  refine ⟨looks, fun j t ht => ?_⟩
  rw [Tryz.params9] at ht
  have hm : t ∈ [3, 51, 3] := by simpa using Array.mem_of_getElem? ht
  have hall : (([3, 51, 3] : List TypeId).all fun u => !Tryz.prog.wantsStandIn u) = true := by kernel_rfl
  exact (show Tryz.prog.wantsStandIn t = false by simpa using List.all_eq_true.1 hall t hm)

set_option maxHeartbeats 16000000 in
theorem whole_ (os : Os) (H : Type) (enc : TypeId × Value → H) : (DataW.whole enc Tryz.checked.prog ((tW os).forCall (fun _ _ => 0) ⟨#[], #[.int .i64 0, .slice none 0 0, .int .i64 0], []⟩).memory Tryz.f9.params.toList (Rows.OpenSpec.upto Rows.tapAgainSpec).vars false (#[.int .i64 0, .slice none 0 0, .int .i64 0] : Array Value).toList 8).map (fun x => (x.1, x.2.1)) = some ([.lit (.int .i64 0), .nil, .lit (.int .i64 0)], []) := by as_aux_lemma => kernel_rfl
set_option maxHeartbeats 16000000 in
theorem conds_ (H : Type) : ([] : List PathCond).all (PathCond.test Tryz.checked.prog ⟨Tryz.f9.params.toList, ([.lit (.int .i64 0), .nil, .lit (.int .i64 0)] : List (DataW H)), (Rows.OpenSpec.upto Rows.tapAgainSpec).bare.plain.varTypes Tryz.checked.prog, []⟩) = true := rfl
theorem small_ (H : Type) : Rows.uptoSmall H (([.lit (.int .i64 0), .nil, .lit (.int .i64 0)] : List (DataW H)) ++ []) = true := by kernel_rfl
set_option maxHeartbeats 16000000 in
theorem sized_ (os : Os) (H : Type) (enc : TypeId × Value → H) : (Rows.OpenSpec.upto Rows.tapAgainSpec).bare.sizedB enc Tryz.checked.prog Tryz.f9 false ((tW os).forCall (fun _ _ => 0) ⟨#[], #[.int .i64 0, .slice none 0 0, .int .i64 0], []⟩).memory #[.int .i64 0, .slice none 0 0, .int .i64 0] 8 = true := by as_aux_lemma => kernel_rfl
theorem wrow (os : Os) (H : Type) (enc : TypeId × Value → H) : (Rows.OpenSpec.upto Rows.tapAgainSpec).preRow enc Tryz.checked.prog Tryz.f9 [] false Rows.tapAgainUptoRow.laid ((tW os).forCall (fun _ _ => 0) ⟨#[], #[.int .i64 0, .slice none 0 0, .int .i64 0], []⟩).memory #[.int .i64 0, .slice none 0 0, .int .i64 0] := by
  obtain ⟨⟨x1, x2, x3⟩, hx, hx1⟩ := Option.map_eq_some_iff.1 (whole_ os H enc)
  simp only [Prod.mk.injEq] at hx1
  obtain ⟨rfl, rfl⟩ := hx1
  exact OpenSpec.preRow_of_cond 8 hx (conds_ H) (fun k hk => by obtain rfl := Option.some.inj hk; exact small_ H) (sized_ os H enc) (door_met os)
set_option maxHeartbeats 16000000 in
theorem wit (os : Os) (H : Type) (enc : TypeId × Value → H) : ∃ (w : World) (tape : Tape) (i : Input), w.os = os ∧ (w.forCall tape i).Shaped Tryz.checked.prog ∧ i.vars = [] ∧ Input.okWide Tryz.checked.prog (w.forCall tape i) .any w.heap.size 9 i ∧
      (Rows.OpenSpec.upto Rows.tapAgainSpec).preRow enc Tryz.checked.prog Tryz.f9 [] false Rows.tapAgainUptoRow.laid (w.forCall tape i).memory i.args ∧ ({ modest := false } : Assume).holds Tryz.checked.prog (lone (Frame.enter Tryz.checked.prog 9 i.args .normal) [] (w.forCall tape i)) :=
  witness_row_sh (enc := enc) (C := Tryz.checked) false (tW os) #[.int .i64 0, .slice none 0 0, .int .i64 0] (tW_os os) (t_shape os #[.int .i64 0, .slice none 0 0, .int .i64 0]) (okin os) (wrow os H enc)

def idx : Nat → Nat
  | 1 => 5
  | 2 => 6
  | 3 => 7
  | 11 => 8
  | 12 => 9
  | 13 => 10
  | 14 => 11
  | 15 => 12
  | 40 => 13
  | 41 => 14
  | _ => 0
set_option maxRecDepth 100000 in
theorem mem_all {n : Nat} (h1 : 1 ≤ n) (h2 : n ≤ 42) (h3 : inG n = true) : sentD (snm n) (stx n) ∈ Rows.tapAgainUptoRow.laid := by
  refine List.mem_of_getElem? (i := idx n) ?_
  match n, h1, h2, h3 with
  | 1, _, _, _ => exact rfl
  | 2, _, _, _ => exact rfl
  | 3, _, _, _ => exact rfl
  | 4, _, _, h => exact absurd h (by decide)
  | 5, _, _, h => exact absurd h (by decide)
  | 6, _, _, h => exact absurd h (by decide)
  | 7, _, _, h => exact absurd h (by decide)
  | 8, _, _, h => exact absurd h (by decide)
  | 9, _, _, h => exact absurd h (by decide)
  | 10, _, _, h => exact absurd h (by decide)
  | 11, _, _, _ => exact rfl
  | 12, _, _, _ => exact rfl
  | 13, _, _, _ => exact rfl
  | 14, _, _, _ => exact rfl
  | 15, _, _, _ => exact rfl
  | 16, _, _, h => exact absurd h (by decide)
  | 17, _, _, h => exact absurd h (by decide)
  | 18, _, _, h => exact absurd h (by decide)
  | 19, _, _, h => exact absurd h (by decide)
  | 20, _, _, h => exact absurd h (by decide)
  | 21, _, _, h => exact absurd h (by decide)
  | 22, _, _, h => exact absurd h (by decide)
  | 23, _, _, h => exact absurd h (by decide)
  | 24, _, _, h => exact absurd h (by decide)
  | 25, _, _, h => exact absurd h (by decide)
  | 26, _, _, h => exact absurd h (by decide)
  | 27, _, _, h => exact absurd h (by decide)
  | 28, _, _, h => exact absurd h (by decide)
  | 29, _, _, h => exact absurd h (by decide)
  | 30, _, _, h => exact absurd h (by decide)
  | 31, _, _, h => exact absurd h (by decide)
  | 32, _, _, h => exact absurd h (by decide)
  | 33, _, _, h => exact absurd h (by decide)
  | 34, _, _, h => exact absurd h (by decide)
  | 35, _, _, h => exact absurd h (by decide)
  | 36, _, _, h => exact absurd h (by decide)
  | 37, _, _, h => exact absurd h (by decide)
  | 38, _, _, h => exact absurd h (by decide)
  | 39, _, _, h => exact absurd h (by decide)
  | 40, _, _, _ => exact rfl
  | 41, _, _, _ => exact rfl
  | 42, _, _, h => exact absurd h (by decide)
  | n + 43, _, h, _ => exact absurd h (by omega)

end Go.Proofs.YtidmgckmphcegaaGreatDoor.tapAgainUpto
