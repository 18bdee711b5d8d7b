/-
 The closed facts of the row TapOwn (upto): its cells, one input that fits.
-/
import Derived.Test.YtidmgckmphcegaaGreatDoorCards
import Derived.Test.YtidmgckmphcegaaGreatDoorMA
import Derived.Test.YtidmgckmphcegaaGreatDoorMN
import Derived.WalkKit
import Derived.ProofKit
import Derived.OpenShut
import Derived.LaidMore
import Derived.LaidSub
import Derived.SevenTiedAt
import Derived.Stop.Joined
import Derived.JoinedOf
import Derived.MakeChecks
import Derived.Lib.SmallJoins
import Derived.Deep.Fields
import Derived.JoinedCond
import Derived.Deep.DeepWitnessRowRef
namespace Go.Proofs.YtidmgckmphcegaaGreatDoor.tapOwnUpto
open Go.ChangeShapes Go.WideShapes Go.ChangeAt Go.RowKit Go.Joins Go.Deep
set_option linter.unusedVariables false
theorem own : ownKnob Tryz.prog.godebug = none := by kernel_rfl
theorem laidOut : laidOutB Tryz.prog = true := by kernel_rfl
theorem door_met (os : Os) : laidMetH Tryz.prog Rows.tapOwnUptoRow.laid ((tW os).forCall (fun _ _ => 0) ⟨#[], #[.agg #[.int .u8 0, .int .u8 0, .int .u16 0, .int .u32 0, .int .u32 0, .slice none 0 0], .string ⟨#[]⟩, .slice none 0 0], []⟩).memory := t_laid os #[.agg #[.int .u8 0, .int .u8 0, .int .u16 0, .int .u32 0, .int .u32 0, .slice none 0 0], .string ⟨#[]⟩, .slice none 0 0]
set_option maxHeartbeats 16000000 in
theorem okin (os : Os) : Input.okWideB Tryz.checked.prog ((tW os).forCall (fun _ _ => 0) ⟨#[], #[.agg #[.int .u8 0, .int .u8 0, .int .u16 0, .int .u32 0, .int .u32 0, .slice none 0 0], .string ⟨#[]⟩, .slice none 0 0], []⟩) 10 ⟨#[], #[.agg #[.int .u8 0, .int .u8 0, .int .u16 0, .int .u32 0, .int .u32 0, .slice none 0 0], .string ⟨#[]⟩, .slice none 0 0], []⟩ = true := by kernel_rfl
theorem and_t {a b : Bool} (h : a = true) (k : b = true) : (a && b) = true := by rw [h, k]; rfl
set_option maxHeartbeats 16000000 in
theorem facts : joinedFacts Tryz.pinned.checked.prog 10 Tryz.f10 (Rows.OpenSpec.upto Rows.tapOwnSpec).bare Rows.tapOwnUptoRow = true := by
 unfold joinedFacts
 repeat' (with_reducible refine and_t ?_ ?_)
 all_goals (as_aux_lemma => kernel_rfl)
theorem named : Tryz.pinned.checked.prog.funcNamed Rows.tapOwnUptoRow.func = some 10 := by kernel_rfl
theorem inst : Tryz.f10.isInstance Tryz.pinned.checked.prog Rows.tapOwnUptoRow.origin Rows.tapOwnUptoRow.targs := of_decide_eq_true (by kernel_rfl)
theorem wrap : Tryz.f10.isWrapper Tryz.pinned.checked.prog Rows.tapOwnUptoRow.wrapper Rows.tapOwnUptoRow.mainSum := by unfold Func.isWrapper; first | (rw [if_pos (by decide +kernel)]; kernel_rfl) | (rw [if_neg (by decide +kernel)]; exact ⟨rfl, rfl⟩)
set_option maxHeartbeats 16000000 in
theorem wfT : Rows.tapOwnUptoRow.wfByText (Rows.OpenSpec.upto Rows.tapOwnSpec) = true := by kernel_rfl
set_option maxHeartbeats 16000000 in
theorem noGo : false = Rows.tapOwnUptoRow.goesBy Tryz.pinned.checked.prog := by kernel_rfl
set_option maxHeartbeats 16000000 in
theorem looks : true = Tryz.pinned.checked.prog.looks [] := by kernel_rfl
theorem plain (f : FuncId) (fn : Func) (hf : Tryz.pinned.checked.prog.funcNamed Rows.tapOwnUptoRow.func = some f) (hfn : Tryz.pinned.checked.prog.funcs[f]? = some fn) :
    true = Tryz.pinned.checked.prog.looks [] ∧ ∀ (j : Nat) t, fn.params[j]? = some t → Tryz.pinned.checked.prog.wantsStandIn t = false := by
 obtain rfl : f = 10 := Option.some.inj (named.symm.trans hf) |>.symm
 obtain rfl : fn = Tryz.f10 := (Option.some.inj (Tryz.func10.symm.trans hfn)).symm
 refine ⟨looks, fun j t ht => ?_⟩
 rw [Tryz.params10] at ht
 have hm : t ∈ [28, 9, 53] := by simpa using Array.mem_of_getElem? ht
 have hall : (([28, 9, 53] : List TypeId).all fun u => !Tryz.prog.wantsStandIn u) = true := by kernel_rfl
 exact (show Tryz.prog.wantsStandIn t = false by simpa using List.all_eq_true.1 hall t hm)
set_option maxHeartbeats 16000000 in
theorem whole_ (os : Os) (H : Type) (enc : TypeId × Value → H) : (DataW.whole enc Tryz.checked.prog ((tW os).forCall (fun _ _ => 0) ⟨#[], #[.agg #[.int .u8 0, .int .u8 0, .int .u16 0, .int .u32 0, .int .u32 0, .slice none 0 0], .string ⟨#[]⟩, .slice none 0 0], []⟩).memory Tryz.f10.params.toList (Rows.OpenSpec.upto Rows.tapOwnSpec).vars false (#[.agg #[.int .u8 0, .int .u8 0, .int .u16 0, .int .u32 0, .int .u32 0, .slice none 0 0], .string ⟨#[]⟩, .slice none 0 0] : Array Value).toList 8).map (fun x => (x.1, x.2.1)) = some ([.agg [.agg [.lit (.int .u8 0), .lit (.int .u8 0), .lit (.int .u16 0), .lit (.int .u32 0), .lit (.int .u32 0)], .nil], .lit (.string []), .nil], []) := by as_aux_lemma => kernel_rfl
set_option maxHeartbeats 16000000 in
theorem conds_ (H : Type) : ([] : List PathCond).all (PathCond.test Tryz.checked.prog ⟨Tryz.f10.params.toList, ([.agg [.agg [.lit (.int .u8 0), .lit (.int .u8 0), .lit (.int .u16 0), .lit (.int .u32 0), .lit (.int .u32 0)], .nil], .lit (.string []), .nil] : List (DataW H)), (Rows.OpenSpec.upto Rows.tapOwnSpec).bare.plain.varTypes Tryz.checked.prog, []⟩) = true := rfl
theorem small_ (H : Type) : Rows.uptoSmall H (([.agg [.agg [.lit (.int .u8 0), .lit (.int .u8 0), .lit (.int .u16 0), .lit (.int .u32 0), .lit (.int .u32 0)], .nil], .lit (.string []), .nil] : List (DataW H)) ++ []) = true := by kernel_rfl
set_option maxHeartbeats 16000000 in
theorem sized_ (os : Os) (H : Type) (enc : TypeId × Value → H) : (Rows.OpenSpec.upto Rows.tapOwnSpec).bare.sizedB enc Tryz.checked.prog Tryz.f10 false ((tW os).forCall (fun _ _ => 0) ⟨#[], #[.agg #[.int .u8 0, .int .u8 0, .int .u16 0, .int .u32 0, .int .u32 0, .slice none 0 0], .string ⟨#[]⟩, .slice none 0 0], []⟩).memory #[.agg #[.int .u8 0, .int .u8 0, .int .u16 0, .int .u32 0, .int .u32 0, .slice none 0 0], .string ⟨#[]⟩, .slice none 0 0] 8 = true := by as_aux_lemma => kernel_rfl
theorem wrow (os : Os) (H : Type) (enc : TypeId × Value → H) : (Rows.OpenSpec.upto Rows.tapOwnSpec).preRow enc Tryz.checked.prog Tryz.f10 [] false Rows.tapOwnUptoRow.laid ((tW os).forCall (fun _ _ => 0) ⟨#[], #[.agg #[.int .u8 0, .int .u8 0, .int .u16 0, .int .u32 0, .int .u32 0, .slice none 0 0], .string ⟨#[]⟩, .slice none 0 0], []⟩).memory #[.agg #[.int .u8 0, .int .u8 0, .int .u16 0, .int .u32 0, .int .u32 0, .slice none 0 0], .string ⟨#[]⟩, .slice none 0 0] := by
 obtain ⟨⟨x1, x2, x3⟩, hx, hx1⟩ := Option.map_eq_some_iff.1 (whole_ os H enc)
 simp only [Prod.mk.injEq] at hx1
 obtain ⟨rfl, rfl⟩ := hx1
 exact OpenSpec.preRow_of_cond 8 hx (conds_ H) (fun k hk => by obtain rfl := Option.some.inj hk; exact small_ H) (sized_ os H enc) (door_met os)
set_option maxHeartbeats 16000000 in
theorem wit (os : Os) (H : Type) (enc : TypeId × Value → H) : ∃ (w : World) (tape : Tape) (i : Input), w.os = os ∧ (w.forCall tape i).Shaped Tryz.checked.prog ∧ i.vars = [] ∧ Input.okWide Tryz.checked.prog (w.forCall tape i) .any w.heap.size 10 i ∧
      (Rows.OpenSpec.upto Rows.tapOwnSpec).preRow enc Tryz.checked.prog Tryz.f10 [] false Rows.tapOwnUptoRow.laid (w.forCall tape i).memory i.args ∧ ({ modest := false } : Assume).holds Tryz.checked.prog (lone (Frame.enter Tryz.checked.prog 10 i.args .normal) [] (w.forCall tape i)) :=
 witness_row_sh (enc := enc) (C := Tryz.checked) false (tW os) #[.agg #[.int .u8 0, .int .u8 0, .int .u16 0, .int .u32 0, .int .u32 0, .slice none 0 0], .string ⟨#[]⟩, .slice none 0 0] (tW_os os) (t_shape os #[.agg #[.int .u8 0, .int .u8 0, .int .u16 0, .int .u32 0, .int .u32 0, .slice none 0 0], .string ⟨#[]⟩, .slice none 0 0]) (okin os) (wrow os H enc)
def idx : Nat → Nat
 | 1 => 5
 | 2 => 6
 | 3 => 7
 | 4 => 8
 | 5 => 9
 | 6 => 10
 | 7 => 11
 | 8 => 12
 | 9 => 13
 | 10 => 14
 | 11 => 15
 | 12 => 16
 | 13 => 17
 | 14 => 18
 | 15 => 19
 | 16 => 20
 | 17 => 21
 | 18 => 22
 | 19 => 23
 | 20 => 24
 | 21 => 25
 | 22 => 26
 | 23 => 27
 | 24 => 28
 | 25 => 29
 | 26 => 30
 | 27 => 31
 | 28 => 32
 | 29 => 33
 | 30 => 34
 | 31 => 35
 | 32 => 36
 | 33 => 37
 | 34 => 38
 | 35 => 39
 | 36 => 40
 | 37 => 41
 | 38 => 42
 | 39 => 43
 | 40 => 44
 | 41 => 45
 | 42 => 46
 | _ => 0
set_option maxRecDepth 100000 in
theorem mem_all {n : Nat} (h1 : 1 ≤ n) (h2 : n ≤ 42) (h3 : inG n = true) : sentD (snm n) (stx n) ∈ Rows.tapOwnUptoRow.laid := by
 refine List.mem_of_getElem? (i := idx n) ?_
 match n, h1, h2, h3 with
 | 1, _, _, _ => exact rfl
 | 2, _, _, _ => exact rfl
 | 3, _, _, _ => exact rfl
 | 4, _, _, _ => exact rfl
 | 5, _, _, _ => exact rfl
 | 6, _, _, _ => exact rfl
 | 7, _, _, _ => exact rfl
 | 8, _, _, _ => exact rfl
 | 9, _, _, _ => exact rfl
 | 10, _, _, _ => exact rfl
 | 11, _, _, _ => exact rfl
 | 12, _, _, _ => exact rfl
 | 13, _, _, _ => exact rfl
 | 14, _, _, _ => exact rfl
 | 15, _, _, _ => exact rfl
 | 16, _, _, _ => exact rfl
 | 17, _, _, _ => exact rfl
 | 18, _, _, _ => exact rfl
 | 19, _, _, _ => exact rfl
 | 20, _, _, _ => exact rfl
 | 21, _, _, _ => exact rfl
 | 22, _, _, _ => exact rfl
 | 23, _, _, _ => exact rfl
 | 24, _, _, _ => exact rfl
 | 25, _, _, _ => exact rfl
 | 26, _, _, _ => exact rfl
 | 27, _, _, _ => exact rfl
 | 28, _, _, _ => exact rfl
 | 29, _, _, _ => exact rfl
 | 30, _, _, _ => exact rfl
 | 31, _, _, _ => exact rfl
 | 32, _, _, _ => exact rfl
 | 33, _, _, _ => exact rfl
 | 34, _, _, _ => exact rfl
 | 35, _, _, _ => exact rfl
 | 36, _, _, _ => exact rfl
 | 37, _, _, _ => exact rfl
 | 38, _, _, _ => exact rfl
 | 39, _, _, _ => exact rfl
 | 40, _, _, _ => exact rfl
 | 41, _, _, _ => exact rfl
 | 42, _, _, _ => exact rfl
 | n + 43, _, h, _ => exact absurd h (by omega)
end Go.Proofs.YtidmgckmphcegaaGreatDoor.tapOwnUpto
