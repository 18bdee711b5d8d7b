/-
  The closed facts of the row SessionChecks: its cells, one input that fits.
-/
import Derived.Test.YtnpmafnhbbaokaaGreatDoorCards
import Derived.Test.YtnpmafnhbbaokaaGreatDoorOpen
import Derived.WalkKit
import Derived.ProofKit
import Derived.OpenShut
import Derived.LaidMore
import Derived.LaidSub
import Derived.SevenTiedAt
import Derived.Stop.Joined
import Derived.JoinedOf
import Derived.MakeChecks
import Derived.Lib.SmallJoins
import Derived.Deep.Fields
namespace Go.Proofs.YtnpmafnhbbaokaaGreatDoor.sessionChecks
open Go.ChangeShapes Go.WideShapes Go.ChangeAt Go.RowKit Go.Joins Go.Deep
set_option linter.unusedVariables false


theorem own : ownKnob Tryz.prog.godebug = none := by kernel_rfl
theorem laidOut : laidOutB Tryz.prog = true := by kernel_rfl
set_option maxHeartbeats 16000000 in
theorem door_part (os : Os) : laidMet Tryz.prog (Rows.sessionChecksRow.laid.filter fun x => x.2.handleName?.isNone) ((World.doorLaid Tryz.prog 847 os).forCall (fun _ _ => 0) ⟨#[], #[.agg #[.int .i64 0, .int .i64 0, .int .i64 0, .int .i64 0, .int .i64 0, .int .i64 0, .int .i64 0, .int .i64 0]], []⟩).memory :=
  laidMet_of_run' 8 (by as_aux_lemma => kernel_rfl) (by as_aux_lemma => kernel_rfl)
set_option maxHeartbeats 16000000 in
theorem door_met (os : Os) : laidMetH Tryz.prog Rows.sessionChecksRow.laid ((World.doorLaid Tryz.prog 847 os).forCall (fun _ _ => 0) ⟨#[], #[.agg #[.int .i64 0, .int .i64 0, .int .i64 0, .int .i64 0, .int .i64 0, .int .i64 0, .int .i64 0, .int .i64 0]], []⟩).memory :=
  laidMetH_of_parts3 (fuel := 8) (door_part os) (by as_aux_lemma => kernel_rfl) (by as_aux_lemma => kernel_rfl)
set_option maxHeartbeats 16000000 in
theorem shaped (os : Os) : ((World.doorLaid Tryz.prog 847 os).forCall (fun _ _ => 0) ⟨#[], #[.agg #[.int .i64 0, .int .i64 0, .int .i64 0, .int .i64 0, .int .i64 0, .int .i64 0, .int .i64 0, .int .i64 0]], []⟩).Shaped Tryz.checked.prog := World.shaped_of_RefB (by as_aux_lemma => kernel_rfl) (by as_aux_lemma => kernel_rfl)
set_option maxHeartbeats 16000000 in
theorem okin (os : Os) : Input.okWideB Tryz.checked.prog ((World.doorLaid Tryz.prog 847 os).forCall (fun _ _ => 0) ⟨#[], #[.agg #[.int .i64 0, .int .i64 0, .int .i64 0, .int .i64 0, .int .i64 0, .int .i64 0, .int .i64 0, .int .i64 0]], []⟩) 3 ⟨#[], #[.agg #[.int .i64 0, .int .i64 0, .int .i64 0, .int .i64 0, .int .i64 0, .int .i64 0, .int .i64 0, .int .i64 0]], []⟩ = true := by kernel_rfl
theorem and_t {a b : Bool} (h : a = true) (k : b = true) : (a && b) = true := by rw [h, k]; rfl
set_option maxHeartbeats 16000000 in
theorem facts : joinedFacts Tryz.pinned.checked.prog 3 Tryz.f3 Rows.sessionChecksSpec Rows.sessionChecksRow = true := by
  unfold joinedFacts
  repeat' (with_reducible refine and_t ?_ ?_)
  all_goals (as_aux_lemma => kernel_rfl)
theorem named : Tryz.pinned.checked.prog.funcNamed Rows.sessionChecksRow.func = some 3 := by kernel_rfl
theorem inst : Tryz.f3.isInstance Tryz.pinned.checked.prog Rows.sessionChecksRow.origin Rows.sessionChecksRow.targs := of_decide_eq_true (by kernel_rfl)
theorem wrap : Tryz.f3.isWrapper Tryz.pinned.checked.prog Rows.sessionChecksRow.wrapper Rows.sessionChecksRow.mainSum := by unfold Func.isWrapper; first | (rw [if_pos (by decide +kernel)]; kernel_rfl) | (rw [if_neg (by decide +kernel)]; exact ⟨rfl, rfl⟩)
set_option maxHeartbeats 16000000 in
theorem wfT : Rows.sessionChecksRow.wfByText (OpenSpec.ofChange Rows.sessionChecksSpec) = true := by kernel_rfl
set_option maxHeartbeats 16000000 in
theorem noGo : false = Rows.sessionChecksRow.goesBy Tryz.pinned.checked.prog := by kernel_rfl
set_option maxHeartbeats 16000000 in
theorem looks : true = Tryz.pinned.checked.prog.looks [] := by kernel_rfl
theorem plain (f : FuncId) (fn : Func) (hf : Tryz.pinned.checked.prog.funcNamed Rows.sessionChecksRow.func = some f) (hfn : Tryz.pinned.checked.prog.funcs[f]? = some fn) :
    true = Tryz.pinned.checked.prog.looks [] ∧ ∀ (j : Nat) t, fn.params[j]? = some t → Tryz.pinned.checked.prog.wantsStandIn t = false := by
  obtain rfl : f = 3 := Option.some.inj (named.symm.trans hf) |>.symm
  obtain rfl : fn = Tryz.f3 := (Option.some.inj (Tryz.func3.symm.trans hfn)).symm
  refine ⟨looks, fun j t ht => ?_⟩
  rw [Tryz.params3] at ht
  have hm : t ∈ [23] := by simpa using Array.mem_of_getElem? ht
  have hall : (([23] : List TypeId).all fun u => !Tryz.prog.wantsStandIn u) = true := by kernel_rfl
  exact (show Tryz.prog.wantsStandIn t = false by simpa using List.all_eq_true.1 hall t hm)

set_option maxHeartbeats 16000000 in
theorem wit (os : Os) (H : Type) (enc : TypeId × Value → H) : ∃ (w : World) (tape : Tape) (i : Input), w.os = os ∧ (w.forCall tape i).Shaped Tryz.checked.prog ∧ i.vars = [] ∧ Input.okWide Tryz.checked.prog (w.forCall tape i) .any w.heap.size 3 i ∧
      ((Rows.sessionChecksSpec.pre enc Tryz.checked.prog Tryz.f3 [] false (w.forCall tape i).memory i.args ∧ laidMetH Tryz.prog Rows.sessionChecksRow.laid (w.forCall tape i).memory) ∧ sizedMet enc Tryz.checked.prog Tryz.f3 (OpenSpec.ofChange Rows.sessionChecksSpec) false (w.forCall tape i).memory i.args) ∧ ({ modest := false } : Assume).holds Tryz.checked.prog (lone (Frame.enter Tryz.checked.prog 3 i.args .normal) [] (w.forCall tape i)) :=
  ChangeSpec.witness_shaped (enc := enc) (C := Tryz.checked) (os := os) (X := fun w _ => laidMetH Tryz.prog Rows.sessionChecksRow.laid w) false (World.doorLaid Tryz.prog 847 os) #[.agg #[.int .i64 0, .int .i64 0, .int .i64 0, .int .i64 0, .int .i64 0, .int .i64 0, .int .i64 0, .int .i64 0]] 8 rfl (shaped os) (okin os) (by as_aux_lemma => kernel_rfl) (by as_aux_lemma => kernel_rfl) (door_met os)

def idx : Nat → Nat
  | 1 => 1
  | 2 => 2
  | 3 => 3
  | 4 => 4
  | 5 => 5
  | 6 => 6
  | 7 => 7
  | 8 => 8
  | 9 => 9
  | 10 => 10
  | 11 => 11
  | 12 => 12
  | 13 => 13
  | 14 => 14
  | 15 => 15
  | 16 => 16
  | 17 => 17
  | 18 => 18
  | 19 => 19
  | 20 => 20
  | 21 => 21
  | 22 => 22
  | 23 => 23
  | 24 => 24
  | 25 => 25
  | 26 => 26
  | 27 => 27
  | 28 => 28
  | 29 => 29
  | 30 => 30
  | 31 => 31
  | 32 => 32
  | 33 => 33
  | 34 => 34
  | 35 => 35
  | 36 => 36
  | 37 => 37
  | 38 => 38
  | 39 => 39
  | 40 => 40
  | 41 => 41
  | 42 => 42
  | _ => 0
set_option maxRecDepth 100000 in
theorem mem_all {n : Nat} (h1 : 1 ≤ n) (h2 : n ≤ 42) (h3 : inG n = true) : sentD (snm n) (stx n) ∈ Rows.sessionChecksRow.laid := by
  refine List.mem_of_getElem? (i := idx n) ?_
  match n, h1, h2, h3 with
  | 1, _, _, _ => exact rfl
  | 2, _, _, _ => exact rfl
  | 3, _, _, _ => exact rfl
  | 4, _, _, _ => exact rfl
  | 5, _, _, _ => exact rfl
  | 6, _, _, _ => exact rfl
  | 7, _, _, _ => exact rfl
  | 8, _, _, _ => exact rfl
  | 9, _, _, _ => exact rfl
  | 10, _, _, _ => exact rfl
  | 11, _, _, _ => exact rfl
  | 12, _, _, _ => exact rfl
  | 13, _, _, _ => exact rfl
  | 14, _, _, _ => exact rfl
  | 15, _, _, _ => exact rfl
  | 16, _, _, _ => exact rfl
  | 17, _, _, _ => exact rfl
  | 18, _, _, _ => exact rfl
  | 19, _, _, _ => exact rfl
  | 20, _, _, _ => exact rfl
  | 21, _, _, _ => exact rfl
  | 22, _, _, _ => exact rfl
  | 23, _, _, _ => exact rfl
  | 24, _, _, _ => exact rfl
  | 25, _, _, _ => exact rfl
  | 26, _, _, _ => exact rfl
  | 27, _, _, _ => exact rfl
  | 28, _, _, _ => exact rfl
  | 29, _, _, _ => exact rfl
  | 30, _, _, _ => exact rfl
  | 31, _, _, _ => exact rfl
  | 32, _, _, _ => exact rfl
  | 33, _, _, _ => exact rfl
  | 34, _, _, _ => exact rfl
  | 35, _, _, _ => exact rfl
  | 36, _, _, _ => exact rfl
  | 37, _, _, _ => exact rfl
  | 38, _, _, _ => exact rfl
  | 39, _, _, _ => exact rfl
  | 40, _, _, _ => exact rfl
  | 41, _, _, _ => exact rfl
  | 42, _, _, _ => exact rfl
  | n + 43, _, h, _ => exact absurd h (by omega)

end Go.Proofs.YtnpmafnhbbaokaaGreatDoor.sessionChecks
