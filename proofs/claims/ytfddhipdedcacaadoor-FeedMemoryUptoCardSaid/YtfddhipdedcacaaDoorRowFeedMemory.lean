/-
  The closed facts of the row FeedMemory (upto): its cells, one input that fits.
-/
import Derived.Test.YtfddhipdedcacaaDoorCards
import Derived.Test.YtfddhipdedcacaaDoorMA
import Derived.WalkKit
import Derived.ProofKit
import Derived.OpenShut
import Derived.LaidMore
import Derived.LaidSub
import Derived.SevenTiedAt
import Derived.Stop.Joined
import Derived.JoinedOf
import Derived.MakeChecks
import Derived.Lib.SmallJoins
import Derived.Deep.Fields
import Derived.JoinedCond
import Derived.Deep.DeepWitnessRowRef
namespace Go.Proofs.YtfddhipdedcacaaDoor.feedMemoryUpto
open Go.ChangeShapes Go.WideShapes Go.ChangeAt Go.RowKit Go.Joins Go.Deep
set_option linter.unusedVariables false


theorem own : ownKnob Tryd.prog.godebug = none := by kernel_rfl
theorem laidOut : laidOutB Tryd.prog = true := by kernel_rfl
set_option maxHeartbeats 16000000 in
theorem door_part (os : Os) : laidMet Tryd.prog (Rows.feedMemoryUptoRow.laid.filter fun x => x.2.handleName?.isNone) ((World.doorLaid Tryd.prog 843 os).forCall (fun _ _ => 0) ⟨#[], #[.int .i64 0, .slice none 0 0], []⟩).memory :=
  laidMet_of_run' 8 (by as_aux_lemma => kernel_rfl) (by as_aux_lemma => kernel_rfl)
set_option maxHeartbeats 16000000 in
theorem door_met (os : Os) : laidMetH Tryd.prog Rows.feedMemoryUptoRow.laid ((World.doorLaid Tryd.prog 843 os).forCall (fun _ _ => 0) ⟨#[], #[.int .i64 0, .slice none 0 0], []⟩).memory :=
  laidMetH_of_parts3 (fuel := 8) (door_part os) (by as_aux_lemma => kernel_rfl) (by as_aux_lemma => kernel_rfl)
set_option maxHeartbeats 16000000 in
theorem okin (os : Os) : Input.okWideB Tryd.checked.prog ((World.doorLaid Tryd.prog 843 os).forCall (fun _ _ => 0) ⟨#[], #[.int .i64 0, .slice none 0 0], []⟩) 8 ⟨#[], #[.int .i64 0, .slice none 0 0], []⟩ = true := by kernel_rfl
theorem and_t {a b : Bool} (h : a = true) (k : b = true) : (a && b) = true := by rw [h, k]; rfl
set_option maxHeartbeats 16000000 in
theorem facts : joinedFacts Tryd.pinned.checked.prog 8 Tryd.f8 (Rows.OpenSpec.upto Rows.feedMemorySpec).bare Rows.feedMemoryUptoRow = true := by
  unfold joinedFacts
  repeat' (with_reducible refine and_t ?_ ?_)
  all_goals (as_aux_lemma => kernel_rfl)
theorem named : Tryd.pinned.checked.prog.funcNamed Rows.feedMemoryUptoRow.func = some 8 := by kernel_rfl
theorem inst : Tryd.f8.isInstance Tryd.pinned.checked.prog Rows.feedMemoryUptoRow.origin Rows.feedMemoryUptoRow.targs := of_decide_eq_true (by kernel_rfl)
theorem wrap : Tryd.f8.isWrapper Tryd.pinned.checked.prog Rows.feedMemoryUptoRow.wrapper Rows.feedMemoryUptoRow.mainSum := by unfold Func.isWrapper; first | (rw [if_pos (by decide +kernel)]; kernel_rfl) | (rw [if_neg (by decide +kernel)]; exact ⟨rfl, rfl⟩)
set_option maxHeartbeats 16000000 in
theorem wfT : Rows.feedMemoryUptoRow.wfByText (Rows.OpenSpec.upto Rows.feedMemorySpec) = true := by kernel_rfl
set_option maxHeartbeats 16000000 in
theorem noGo : false = Rows.feedMemoryUptoRow.goesBy Tryd.pinned.checked.prog := by kernel_rfl
set_option maxHeartbeats 16000000 in
theorem looks : true = Tryd.pinned.checked.prog.looks [] := by kernel_rfl
theorem plain (f : FuncId) (fn : Func) (hf : Tryd.pinned.checked.prog.funcNamed Rows.feedMemoryUptoRow.func = some f) (hfn : Tryd.pinned.checked.prog.funcs[f]? = some fn) :
    true = Tryd.pinned.checked.prog.looks [] ∧ ∀ (j : Nat) t, fn.params[j]? = some t → Tryd.pinned.checked.prog.wantsStandIn t = false := by
  obtain rfl : f = 8 := Option.some.inj (named.symm.trans hf) |>.symm
  obtain rfl : fn = Tryd.f8 := (Option.some.inj (Tryd.func8.symm.trans hfn)).symm
  refine ⟨looks, fun j t ht => ?_⟩
  rw [Tryd.params8] at ht
  have hm : t ∈ [3, 50] := by simpa using Array.mem_of_getElem? ht
  have hall : (([3, 50] : List TypeId).all fun u => !Tryd.prog.wantsStandIn u) = true := by kernel_rfl
  exact (show Tryd.prog.wantsStandIn t = false by simpa using List.all_eq_true.1 hall t hm)

set_option maxHeartbeats 16000000 in
theorem whole_ (os : Os) (H : Type) (enc : TypeId × Value → H) : (DataW.whole enc Tryd.checked.prog ((World.doorLaid Tryd.prog 843 os).forCall (fun _ _ => 0) ⟨#[], #[.int .i64 0, .slice none 0 0], []⟩).memory Tryd.f8.params.toList (Rows.OpenSpec.upto Rows.feedMemorySpec).vars false (#[.int .i64 0, .slice none 0 0] : Array Value).toList 8).map (fun x => (x.1, x.2.1)) = some ([.lit (.int .i64 0), .nil], []) := by as_aux_lemma => kernel_rfl
set_option maxHeartbeats 16000000 in
theorem conds_ (H : Type) : ([] : List PathCond).all (PathCond.test Tryd.checked.prog ⟨Tryd.f8.params.toList, ([.lit (.int .i64 0), .nil] : List (DataW H)), (Rows.OpenSpec.upto Rows.feedMemorySpec).bare.plain.varTypes Tryd.checked.prog, []⟩) = true := rfl
theorem small_ (H : Type) : Rows.uptoSmall H (([.lit (.int .i64 0), .nil] : List (DataW H)) ++ []) = true := by kernel_rfl
set_option maxHeartbeats 16000000 in
theorem sized_ (os : Os) (H : Type) (enc : TypeId × Value → H) : (Rows.OpenSpec.upto Rows.feedMemorySpec).bare.sizedB enc Tryd.checked.prog Tryd.f8 false ((World.doorLaid Tryd.prog 843 os).forCall (fun _ _ => 0) ⟨#[], #[.int .i64 0, .slice none 0 0], []⟩).memory #[.int .i64 0, .slice none 0 0] 8 = true := by as_aux_lemma => kernel_rfl
theorem wrow (os : Os) (H : Type) (enc : TypeId × Value → H) : (Rows.OpenSpec.upto Rows.feedMemorySpec).preRow enc Tryd.checked.prog Tryd.f8 [] false Rows.feedMemoryUptoRow.laid ((World.doorLaid Tryd.prog 843 os).forCall (fun _ _ => 0) ⟨#[], #[.int .i64 0, .slice none 0 0], []⟩).memory #[.int .i64 0, .slice none 0 0] := by
  obtain ⟨⟨x1, x2, x3⟩, hx, hx1⟩ := Option.map_eq_some_iff.1 (whole_ os H enc)
  simp only [Prod.mk.injEq] at hx1
  obtain ⟨rfl, rfl⟩ := hx1
  exact OpenSpec.preRow_of_cond 8 hx (conds_ H) (fun k hk => by obtain rfl := Option.some.inj hk; exact small_ H) (sized_ os H enc) (door_met os)
set_option maxHeartbeats 16000000 in
theorem wit (os : Os) (H : Type) (enc : TypeId × Value → H) : ∃ (w : World) (tape : Tape) (i : Input), w.os = os ∧ (w.forCall tape i).Shaped Tryd.checked.prog ∧ i.vars = [] ∧ Input.okWide Tryd.checked.prog (w.forCall tape i) .any w.heap.size 8 i ∧
      (Rows.OpenSpec.upto Rows.feedMemorySpec).preRow enc Tryd.checked.prog Tryd.f8 [] false Rows.feedMemoryUptoRow.laid (w.forCall tape i).memory i.args ∧ ({ modest := false } : Assume).holds Tryd.checked.prog (lone (Frame.enter Tryd.checked.prog 8 i.args .normal) [] (w.forCall tape i)) :=
  witness_row_atRef (enc := enc) (C := Tryd.checked) false (World.doorLaid Tryd.prog 843 os) #[.int .i64 0, .slice none 0 0] rfl (by as_aux_lemma => kernel_rfl) (by as_aux_lemma => kernel_rfl) (okin os) (wrow os H enc)

def idx : Nat → Nat
  | 1 => 1
  | 2 => 2
  | 3 => 3
  | 4 => 4
  | 5 => 5
  | 6 => 6
  | 7 => 7
  | 8 => 8
  | 9 => 9
  | 10 => 10
  | 11 => 11
  | 12 => 12
  | 13 => 13
  | 14 => 14
  | 15 => 15
  | 16 => 16
  | 17 => 17
  | 18 => 18
  | 19 => 19
  | 20 => 20
  | 21 => 21
  | 22 => 22
  | 23 => 23
  | 24 => 24
  | 25 => 25
  | 26 => 26
  | 27 => 27
  | 28 => 28
  | 29 => 29
  | 30 => 30
  | 31 => 31
  | 32 => 32
  | 33 => 33
  | 34 => 34
  | 35 => 35
  | 36 => 36
  | 37 => 37
  | 38 => 38
  | 39 => 39
  | 40 => 40
  | 41 => 41
  | 42 => 42
  | _ => 0
set_option maxRecDepth 100000 in
theorem mem_all {n : Nat} (h1 : 1 ≤ n) (h2 : n ≤ 42) : sentD (snm n) (stx n) ∈ Rows.feedMemoryUptoRow.laid := by
  refine List.mem_of_getElem? (i := idx n) ?_
  match n, h1, h2 with
  | 1, _, _ => exact rfl
  | 2, _, _ => exact rfl
  | 3, _, _ => exact rfl
  | 4, _, _ => exact rfl
  | 5, _, _ => exact rfl
  | 6, _, _ => exact rfl
  | 7, _, _ => exact rfl
  | 8, _, _ => exact rfl
  | 9, _, _ => exact rfl
  | 10, _, _ => exact rfl
  | 11, _, _ => exact rfl
  | 12, _, _ => exact rfl
  | 13, _, _ => exact rfl
  | 14, _, _ => exact rfl
  | 15, _, _ => exact rfl
  | 16, _, _ => exact rfl
  | 17, _, _ => exact rfl
  | 18, _, _ => exact rfl
  | 19, _, _ => exact rfl
  | 20, _, _ => exact rfl
  | 21, _, _ => exact rfl
  | 22, _, _ => exact rfl
  | 23, _, _ => exact rfl
  | 24, _, _ => exact rfl
  | 25, _, _ => exact rfl
  | 26, _, _ => exact rfl
  | 27, _, _ => exact rfl
  | 28, _, _ => exact rfl
  | 29, _, _ => exact rfl
  | 30, _, _ => exact rfl
  | 31, _, _ => exact rfl
  | 32, _, _ => exact rfl
  | 33, _, _ => exact rfl
  | 34, _, _ => exact rfl
  | 35, _, _ => exact rfl
  | 36, _, _ => exact rfl
  | 37, _, _ => exact rfl
  | 38, _, _ => exact rfl
  | 39, _, _ => exact rfl
  | 40, _, _ => exact rfl
  | 41, _, _ => exact rfl
  | 42, _, _ => exact rfl
  | n + 43, _, h => exact absurd h (by omega)

end Go.Proofs.YtfddhipdedcacaaDoor.feedMemoryUpto
