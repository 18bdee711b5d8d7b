/-
  The closed facts of the row FeedBounds: its cells, one input that fits.
-/
import Derived.Test.YtfddhipdedcacaaDoorCards
import Derived.Test.YtfddhipdedcacaaDoorMA
import Derived.WalkKit
import Derived.ProofKit
import Derived.OpenShut
import Derived.LaidMore
import Derived.LaidSub
import Derived.SevenTiedAt
import Derived.Stop.Joined
import Derived.JoinedOf
import Derived.MakeChecks
import Derived.Lib.SmallJoins
import Derived.Deep.Fields
namespace Go.Proofs.YtfddhipdedcacaaDoor.feedBounds
open Go.ChangeShapes Go.WideShapes Go.ChangeAt Go.RowKit Go.Joins Go.Deep
set_option linter.unusedVariables false


theorem own : ownKnob Tryd.prog.godebug = none := by kernel_rfl
theorem laidOut : laidOutB Tryd.prog = true := by kernel_rfl
set_option maxHeartbeats 16000000 in
theorem door_part (os : Os) : laidMet Tryd.prog (Rows.feedBoundsRow.laid.filter fun x => x.2.handleName?.isNone) ((World.doorLaid Tryd.prog 843 os).forCall (fun _ _ => 0) ⟨#[], #[.int .i64 0, .slice none 0 0], []⟩).memory :=
  laidMet_of_run' 8 (by as_aux_lemma => kernel_rfl) (by as_aux_lemma => kernel_rfl)
set_option maxHeartbeats 16000000 in
theorem door_met (os : Os) : laidMetH Tryd.prog Rows.feedBoundsRow.laid ((World.doorLaid Tryd.prog 843 os).forCall (fun _ _ => 0) ⟨#[], #[.int .i64 0, .slice none 0 0], []⟩).memory :=
  laidMetH_of_parts3 (fuel := 8) (door_part os) (by as_aux_lemma => kernel_rfl) (by as_aux_lemma => kernel_rfl)
set_option maxHeartbeats 16000000 in
theorem shaped (os : Os) : ((World.doorLaid Tryd.prog 843 os).forCall (fun _ _ => 0) ⟨#[], #[.int .i64 0, .slice none 0 0], []⟩).Shaped Tryd.checked.prog := World.shaped_of_RefB (by as_aux_lemma => kernel_rfl) (by as_aux_lemma => kernel_rfl)
set_option maxHeartbeats 16000000 in
theorem okin (os : Os) : Input.okWideB Tryd.checked.prog ((World.doorLaid Tryd.prog 843 os).forCall (fun _ _ => 0) ⟨#[], #[.int .i64 0, .slice none 0 0], []⟩) 11 ⟨#[], #[.int .i64 0, .slice none 0 0], []⟩ = true := by kernel_rfl
theorem and_t {a b : Bool} (h : a = true) (k : b = true) : (a && b) = true := by rw [h, k]; rfl
set_option maxHeartbeats 16000000 in
theorem facts : joinedFacts Tryd.pinned.checked.prog 11 Tryd.f11 Rows.feedBoundsSpec Rows.feedBoundsRow = true := by
  unfold joinedFacts
  repeat' (with_reducible refine and_t ?_ ?_)
  all_goals (as_aux_lemma => kernel_rfl)
theorem named : Tryd.pinned.checked.prog.funcNamed Rows.feedBoundsRow.func = some 11 := by kernel_rfl
theorem inst : Tryd.f11.isInstance Tryd.pinned.checked.prog Rows.feedBoundsRow.origin Rows.feedBoundsRow.targs := of_decide_eq_true (by kernel_rfl)
theorem wrap : Tryd.f11.isWrapper Tryd.pinned.checked.prog Rows.feedBoundsRow.wrapper Rows.feedBoundsRow.mainSum := by unfold Func.isWrapper; first | (rw [if_pos (by decide +kernel)]; kernel_rfl) | (rw [if_neg (by decide +kernel)]; exact ⟨rfl, rfl⟩)
set_option maxHeartbeats 16000000 in
theorem wfT : Rows.feedBoundsRow.wfByText (OpenSpec.ofChange Rows.feedBoundsSpec) = true := by kernel_rfl
set_option maxHeartbeats 16000000 in
theorem noGo : false = Rows.feedBoundsRow.goesBy Tryd.pinned.checked.prog := by kernel_rfl
set_option maxHeartbeats 16000000 in
theorem looks : true = Tryd.pinned.checked.prog.looks [] := by kernel_rfl
theorem plain (f : FuncId) (fn : Func) (hf : Tryd.pinned.checked.prog.funcNamed Rows.feedBoundsRow.func = some f) (hfn : Tryd.pinned.checked.prog.funcs[f]? = some fn) :
    true = Tryd.pinned.checked.prog.looks [] ∧ ∀ (j : Nat) t, fn.params[j]? = some t → Tryd.pinned.checked.prog.wantsStandIn t = false := by
  obtain rfl : f = 11 := Option.some.inj (named.symm.trans hf) |>.symm
  obtain rfl : fn = Tryd.f11 := (Option.some.inj (Tryd.func11.symm.trans hfn)).symm
  refine ⟨looks, fun j t ht => ?_⟩
  rw [Tryd.params11] at ht
  have hm : t ∈ [3, 38] := by simpa using Array.mem_of_getElem? ht
  have hall : (([3, 38] : List TypeId).all fun u => !Tryd.prog.wantsStandIn u) = true := by kernel_rfl
  exact (show Tryd.prog.wantsStandIn t = false by simpa using List.all_eq_true.1 hall t hm)

set_option maxHeartbeats 16000000 in
theorem wit (os : Os) (H : Type) (enc : TypeId × Value → H) : ∃ (w : World) (tape : Tape) (i : Input), w.os = os ∧ (w.forCall tape i).Shaped Tryd.checked.prog ∧ i.vars = [] ∧ Input.okWide Tryd.checked.prog (w.forCall tape i) .any w.heap.size 11 i ∧
      ((Rows.feedBoundsSpec.pre enc Tryd.checked.prog Tryd.f11 [] false (w.forCall tape i).memory i.args ∧ laidMetH Tryd.prog Rows.feedBoundsRow.laid (w.forCall tape i).memory) ∧ sizedMet enc Tryd.checked.prog Tryd.f11 (OpenSpec.ofChange Rows.feedBoundsSpec) false (w.forCall tape i).memory i.args) ∧ ({ modest := false } : Assume).holds Tryd.checked.prog (lone (Frame.enter Tryd.checked.prog 11 i.args .normal) [] (w.forCall tape i)) :=
  ChangeSpec.witness_shaped (enc := enc) (C := Tryd.checked) (os := os) (X := fun w _ => laidMetH Tryd.prog Rows.feedBoundsRow.laid w) false (World.doorLaid Tryd.prog 843 os) #[.int .i64 0, .slice none 0 0] 8 rfl (shaped os) (okin os) (by as_aux_lemma => kernel_rfl) (by as_aux_lemma => kernel_rfl) (door_met os)

def idx : Nat → Nat
  | 1 => 1
  | 2 => 2
  | 3 => 3
  | 4 => 4
  | 5 => 5
  | 6 => 6
  | 7 => 7
  | 8 => 8
  | 9 => 9
  | 10 => 10
  | 11 => 11
  | 12 => 12
  | 13 => 13
  | 14 => 14
  | 15 => 15
  | 16 => 16
  | 17 => 17
  | 18 => 18
  | 19 => 19
  | 20 => 20
  | 21 => 21
  | 22 => 22
  | 23 => 23
  | 24 => 24
  | 25 => 25
  | 26 => 26
  | 27 => 27
  | 28 => 28
  | 29 => 29
  | 30 => 30
  | 31 => 31
  | 32 => 32
  | 33 => 33
  | 34 => 34
  | 35 => 35
  | 36 => 36
  | 37 => 37
  | 38 => 38
  | 39 => 39
  | 40 => 40
  | 41 => 41
  | 42 => 42
  | _ => 0
set_option maxRecDepth 100000 in
theorem mem_all {n : Nat} (h1 : 1 ≤ n) (h2 : n ≤ 42) : sentD (snm n) (stx n) ∈ Rows.feedBoundsRow.laid := by
  refine List.mem_of_getElem? (i := idx n) ?_
  match n, h1, h2 with
  | 1, _, _ => exact rfl
  | 2, _, _ => exact rfl
  | 3, _, _ => exact rfl
  | 4, _, _ => exact rfl
  | 5, _, _ => exact rfl
  | 6, _, _ => exact rfl
  | 7, _, _ => exact rfl
  | 8, _, _ => exact rfl
  | 9, _, _ => exact rfl
  | 10, _, _ => exact rfl
  | 11, _, _ => exact rfl
  | 12, _, _ => exact rfl
  | 13, _, _ => exact rfl
  | 14, _, _ => exact rfl
  | 15, _, _ => exact rfl
  | 16, _, _ => exact rfl
  | 17, _, _ => exact rfl
  | 18, _, _ => exact rfl
  | 19, _, _ => exact rfl
  | 20, _, _ => exact rfl
  | 21, _, _ => exact rfl
  | 22, _, _ => exact rfl
  | 23, _, _ => exact rfl
  | 24, _, _ => exact rfl
  | 25, _, _ => exact rfl
  | 26, _, _ => exact rfl
  | 27, _, _ => exact rfl
  | 28, _, _ => exact rfl
  | 29, _, _ => exact rfl
  | 30, _, _ => exact rfl
  | 31, _, _ => exact rfl
  | 32, _, _ => exact rfl
  | 33, _, _ => exact rfl
  | 34, _, _ => exact rfl
  | 35, _, _ => exact rfl
  | 36, _, _ => exact rfl
  | 37, _, _ => exact rfl
  | 38, _, _ => exact rfl
  | 39, _, _ => exact rfl
  | 40, _, _ => exact rfl
  | 41, _, _ => exact rfl
  | 42, _, _ => exact rfl
  | n + 43, _, h => exact absurd h (by omega)

end Go.Proofs.YtfddhipdedcacaaDoor.feedBounds
