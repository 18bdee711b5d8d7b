/-
  The closed facts of the row FrameOwn (upto): its cells, one input that fits.
-/
import Derived.Test.YtfddhipdedcacaaDoorCards
import Derived.Test.YtfddhipdedcacaaDoorMA
import Derived.WalkKit
import Derived.ProofKit
import Derived.OpenShut
import Derived.LaidMore
import Derived.LaidSub
import Derived.SevenTiedAt
import Derived.Stop.Joined
import Derived.JoinedOf
import Derived.MakeChecks
import Derived.Lib.SmallJoins
import Derived.Deep.Fields
import Derived.JoinedCond
import Derived.Deep.DeepWitnessRowRef
namespace Go.Proofs.YtfddhipdedcacaaDoor.frameOwnUpto
open Go.ChangeShapes Go.WideShapes Go.ChangeAt Go.RowKit Go.Joins Go.Deep
set_option linter.unusedVariables false


theorem own : ownKnob Tryd.prog.godebug = none := by kernel_rfl
theorem laidOut : laidOutB Tryd.prog = true := by kernel_rfl
set_option maxHeartbeats 16000000 in
theorem door_part (os : Os) : laidMet Tryd.prog (Rows.frameOwnUptoRow.laid.filter fun x => x.2.handleName?.isNone) ((World.doorLaid Tryd.prog 843 os).forCall (fun _ _ => 0) ⟨#[], #[.agg #[.int .u8 0, .int .u8 0, .int .u16 0, .int .u32 0, .int .u32 0, .slice none 0 0]], []⟩).memory :=
  laidMet_of_run' 8 (by as_aux_lemma => kernel_rfl) (by as_aux_lemma => kernel_rfl)
set_option maxHeartbeats 16000000 in
theorem door_met (os : Os) : laidMetH Tryd.prog Rows.frameOwnUptoRow.laid ((World.doorLaid Tryd.prog 843 os).forCall (fun _ _ => 0) ⟨#[], #[.agg #[.int .u8 0, .int .u8 0, .int .u16 0, .int .u32 0, .int .u32 0, .slice none 0 0]], []⟩).memory :=
  laidMetH_of_parts3 (fuel := 8) (door_part os) (by as_aux_lemma => kernel_rfl) (by as_aux_lemma => kernel_rfl)
set_option maxHeartbeats 16000000 in
theorem okin (os : Os) : Input.okWideB Tryd.checked.prog ((World.doorLaid Tryd.prog 843 os).forCall (fun _ _ => 0) ⟨#[], #[.agg #[.int .u8 0, .int .u8 0, .int .u16 0, .int .u32 0, .int .u32 0, .slice none 0 0]], []⟩) 7 ⟨#[], #[.agg #[.int .u8 0, .int .u8 0, .int .u16 0, .int .u32 0, .int .u32 0, .slice none 0 0]], []⟩ = true := by kernel_rfl
theorem and_t {a b : Bool} (h : a = true) (k : b = true) : (a && b) = true := by rw [h, k]; rfl
set_option maxHeartbeats 16000000 in
theorem facts : joinedFacts Tryd.pinned.checked.prog 7 Tryd.f7 (Rows.OpenSpec.upto Rows.frameOwnSpec).bare Rows.frameOwnUptoRow = true := by
  unfold joinedFacts
  repeat' (with_reducible refine and_t ?_ ?_)
  all_goals (as_aux_lemma => kernel_rfl)
theorem named : Tryd.pinned.checked.prog.funcNamed Rows.frameOwnUptoRow.func = some 7 := by kernel_rfl
theorem inst : Tryd.f7.isInstance Tryd.pinned.checked.prog Rows.frameOwnUptoRow.origin Rows.frameOwnUptoRow.targs := of_decide_eq_true (by kernel_rfl)
theorem wrap : Tryd.f7.isWrapper Tryd.pinned.checked.prog Rows.frameOwnUptoRow.wrapper Rows.frameOwnUptoRow.mainSum := by unfold Func.isWrapper; first | (rw [if_pos (by decide +kernel)]; kernel_rfl) | (rw [if_neg (by decide +kernel)]; exact ⟨rfl, rfl⟩)
set_option maxHeartbeats 16000000 in
theorem wfT : Rows.frameOwnUptoRow.wfByText (Rows.OpenSpec.upto Rows.frameOwnSpec) = true := by kernel_rfl
set_option maxHeartbeats 16000000 in
theorem noGo : false = Rows.frameOwnUptoRow.goesBy Tryd.pinned.checked.prog := by kernel_rfl
set_option maxHeartbeats 16000000 in
theorem looks : true = Tryd.pinned.checked.prog.looks [] := by kernel_rfl
theorem plain (f : FuncId) (fn : Func) (hf : Tryd.pinned.checked.prog.funcNamed Rows.frameOwnUptoRow.func = some f) (hfn : Tryd.pinned.checked.prog.funcs[f]? = some fn) :
    true = Tryd.pinned.checked.prog.looks [] ∧ ∀ (j : Nat) t, fn.params[j]? = some t → Tryd.pinned.checked.prog.wantsStandIn t = false := by
  obtain rfl : f = 7 := Option.some.inj (named.symm.trans hf) |>.symm
  obtain rfl : fn = Tryd.f7 := (Option.some.inj (Tryd.func7.symm.trans hfn)).symm
  refine ⟨looks, fun j t ht => ?_⟩
  rw [Tryd.params7] at ht
  have hm : t ∈ [45] := by simpa using Array.mem_of_getElem? ht
  have hall : (([45] : List TypeId).all fun u => !Tryd.prog.wantsStandIn u) = true := by kernel_rfl
  exact (show Tryd.prog.wantsStandIn t = false by simpa using List.all_eq_true.1 hall t hm)

set_option maxHeartbeats 16000000 in
theorem whole_ (os : Os) (H : Type) (enc : TypeId × Value → H) : (DataW.whole enc Tryd.checked.prog ((World.doorLaid Tryd.prog 843 os).forCall (fun _ _ => 0) ⟨#[], #[.agg #[.int .u8 0, .int .u8 0, .int .u16 0, .int .u32 0, .int .u32 0, .slice none 0 0]], []⟩).memory Tryd.f7.params.toList (Rows.OpenSpec.upto Rows.frameOwnSpec).vars false (#[.agg #[.int .u8 0, .int .u8 0, .int .u16 0, .int .u32 0, .int .u32 0, .slice none 0 0]] : Array Value).toList 8).map (fun x => (x.1, x.2.1)) = some ([.agg [.agg [.lit (.int .u8 0), .lit (.int .u8 0), .lit (.int .u16 0), .lit (.int .u32 0), .lit (.int .u32 0)], .nil]], []) := by as_aux_lemma => kernel_rfl
set_option maxHeartbeats 16000000 in
theorem conds_ (H : Type) : ([] : List PathCond).all (PathCond.test Tryd.checked.prog ⟨Tryd.f7.params.toList, ([.agg [.agg [.lit (.int .u8 0), .lit (.int .u8 0), .lit (.int .u16 0), .lit (.int .u32 0), .lit (.int .u32 0)], .nil]] : List (DataW H)), (Rows.OpenSpec.upto Rows.frameOwnSpec).bare.plain.varTypes Tryd.checked.prog, []⟩) = true := rfl
theorem small_ (H : Type) : Rows.uptoSmall H (([.agg [.agg [.lit (.int .u8 0), .lit (.int .u8 0), .lit (.int .u16 0), .lit (.int .u32 0), .lit (.int .u32 0)], .nil]] : List (DataW H)) ++ []) = true := by kernel_rfl
set_option maxHeartbeats 16000000 in
theorem sized_ (os : Os) (H : Type) (enc : TypeId × Value → H) : (Rows.OpenSpec.upto Rows.frameOwnSpec).bare.sizedB enc Tryd.checked.prog Tryd.f7 false ((World.doorLaid Tryd.prog 843 os).forCall (fun _ _ => 0) ⟨#[], #[.agg #[.int .u8 0, .int .u8 0, .int .u16 0, .int .u32 0, .int .u32 0, .slice none 0 0]], []⟩).memory #[.agg #[.int .u8 0, .int .u8 0, .int .u16 0, .int .u32 0, .int .u32 0, .slice none 0 0]] 8 = true := by as_aux_lemma => kernel_rfl
theorem wrow (os : Os) (H : Type) (enc : TypeId × Value → H) : (Rows.OpenSpec.upto Rows.frameOwnSpec).preRow enc Tryd.checked.prog Tryd.f7 [] false Rows.frameOwnUptoRow.laid ((World.doorLaid Tryd.prog 843 os).forCall (fun _ _ => 0) ⟨#[], #[.agg #[.int .u8 0, .int .u8 0, .int .u16 0, .int .u32 0, .int .u32 0, .slice none 0 0]], []⟩).memory #[.agg #[.int .u8 0, .int .u8 0, .int .u16 0, .int .u32 0, .int .u32 0, .slice none 0 0]] := by
  obtain ⟨⟨x1, x2, x3⟩, hx, hx1⟩ := Option.map_eq_some_iff.1 (whole_ os H enc)
  simp only [Prod.mk.injEq] at hx1
  obtain ⟨rfl, rfl⟩ := hx1
  exact OpenSpec.preRow_of_cond 8 hx (conds_ H) (fun k hk => by obtain rfl := Option.some.inj hk; exact small_ H) (sized_ os H enc) (door_met os)
set_option maxHeartbeats 16000000 in
theorem wit (os : Os) (H : Type) (enc : TypeId × Value → H) : ∃ (w : World) (tape : Tape) (i : Input), w.os = os ∧ (w.forCall tape i).Shaped Tryd.checked.prog ∧ i.vars = [] ∧ Input.okWide Tryd.checked.prog (w.forCall tape i) .any w.heap.size 7 i ∧
      (Rows.OpenSpec.upto Rows.frameOwnSpec).preRow enc Tryd.checked.prog Tryd.f7 [] false Rows.frameOwnUptoRow.laid (w.forCall tape i).memory i.args ∧ ({ modest := false } : Assume).holds Tryd.checked.prog (lone (Frame.enter Tryd.checked.prog 7 i.args .normal) [] (w.forCall tape i)) :=
  witness_row_atRef (enc := enc) (C := Tryd.checked) false (World.doorLaid Tryd.prog 843 os) #[.agg #[.int .u8 0, .int .u8 0, .int .u16 0, .int .u32 0, .int .u32 0, .slice none 0 0]] rfl (by as_aux_lemma => kernel_rfl) (by as_aux_lemma => kernel_rfl) (okin os) (wrow os H enc)

def idx : Nat → Nat
  | 1 => 0
  | 2 => 1
  | 3 => 2
  | 4 => 3
  | 5 => 4
  | 6 => 5
  | 7 => 6
  | 8 => 7
  | 9 => 8
  | 10 => 9
  | 11 => 10
  | 12 => 11
  | 13 => 12
  | 14 => 13
  | 15 => 14
  | 16 => 15
  | 17 => 16
  | 18 => 17
  | 19 => 18
  | 20 => 19
  | 21 => 20
  | 22 => 21
  | 23 => 22
  | 24 => 23
  | 25 => 24
  | 26 => 25
  | 27 => 26
  | 28 => 27
  | 29 => 28
  | 30 => 29
  | 31 => 30
  | 32 => 31
  | 33 => 32
  | 34 => 33
  | 35 => 34
  | 36 => 35
  | 37 => 36
  | 38 => 37
  | 39 => 38
  | 40 => 39
  | 41 => 40
  | 42 => 41
  | _ => 0
set_option maxRecDepth 100000 in
theorem mem_all {n : Nat} (h1 : 1 ≤ n) (h2 : n ≤ 42) : sentD (snm n) (stx n) ∈ Rows.frameOwnUptoRow.laid := by
  refine List.mem_of_getElem? (i := idx n) ?_
  match n, h1, h2 with
  | 1, _, _ => exact rfl
  | 2, _, _ => exact rfl
  | 3, _, _ => exact rfl
  | 4, _, _ => exact rfl
  | 5, _, _ => exact rfl
  | 6, _, _ => exact rfl
  | 7, _, _ => exact rfl
  | 8, _, _ => exact rfl
  | 9, _, _ => exact rfl
  | 10, _, _ => exact rfl
  | 11, _, _ => exact rfl
  | 12, _, _ => exact rfl
  | 13, _, _ => exact rfl
  | 14, _, _ => exact rfl
  | 15, _, _ => exact rfl
  | 16, _, _ => exact rfl
  | 17, _, _ => exact rfl
  | 18, _, _ => exact rfl
  | 19, _, _ => exact rfl
  | 20, _, _ => exact rfl
  | 21, _, _ => exact rfl
  | 22, _, _ => exact rfl
  | 23, _, _ => exact rfl
  | 24, _, _ => exact rfl
  | 25, _, _ => exact rfl
  | 26, _, _ => exact rfl
  | 27, _, _ => exact rfl
  | 28, _, _ => exact rfl
  | 29, _, _ => exact rfl
  | 30, _, _ => exact rfl
  | 31, _, _ => exact rfl
  | 32, _, _ => exact rfl
  | 33, _, _ => exact rfl
  | 34, _, _ => exact rfl
  | 35, _, _ => exact rfl
  | 36, _, _ => exact rfl
  | 37, _, _ => exact rfl
  | 38, _, _ => exact rfl
  | 39, _, _ => exact rfl
  | 40, _, _ => exact rfl
  | 41, _, _ => exact rfl
  | 42, _, _ => exact rfl
  | n + 43, _, h => exact absurd h (by omega)

end Go.Proofs.YtfddhipdedcacaaDoor.frameOwnUpto
