import Derived.Test.YtidmgckmphcegaaGreatDoorCards
import Derived.Lay
import Derived.LaidHandle
import Derived.LaidMore
import Derived.LaidSub
import Derived.MakeChecks
import Derived.Deep.DeepWitnessRowRef
/-
 A world in which the Tap rows' listed variables hold what the text lays (the witness's start): laid by the function of Derived/Lay, the handle of the type 'error' by hand.
-/
namespace Go.Proofs.YtidmgckmphcegaaGreatDoor
open Go
set_option linter.unusedVariables false
abbrev tLaid : List (String × DataW Unit) := Rows.tapJoinsUptoRow.laid
abbrev tLaidP : List (String × DataW Unit) := tLaid.filter fun x => x.2.handleName?.isNone
noncomputable def tW0 (os : Os) : World := (World.holding Tryz.prog os ⟨#[], #[], []⟩).setCell ⟨44, 0, none⟩ (.iface 192 (.agg #[.pointer (some ⟨53, 33, none⟩)]))
noncomputable def tW (os : Os) : World := (tW0 os).layVars Tryz.prog tLaidP
theorem tW_os (os : Os) : (tW os).os = os := World.layVars_os _ _ _
set_option maxHeartbeats 16000000 in
theorem t_fits (os : Os) : (tW0 os).layFits Tryz.prog tLaidP [] = true := by as_aux_lemma => kernel_rfl
set_option maxHeartbeats 16000000 in
theorem t_ifaces (os : Os) : (tW0 os).layIfaces Tryz.prog tLaidP (tW os) = true := by as_aux_lemma => kernel_rfl
theorem filter_all {α β : Type} [BEq α] [LawfulBEq α] (l : List (α × β)) : (l.filter fun x => (l.map (·.1)).contains x.1) = l := List.filter_eq_self.2 fun x hx => List.contains_iff_mem.2 (List.mem_map.2 ⟨x, hx, rfl⟩)
theorem filter_non {α β : Type} [BEq α] [LawfulBEq α] (l : List (α × β)) : (l.filter fun x => !(l.map (·.1)).contains x.1) = [] := List.filter_eq_nil_iff.2 fun x hx => by rw [List.contains_iff_mem.2 (List.mem_map.2 ⟨x, hx, rfl⟩)]; simp
theorem t_met (os : Os) (args : Array Value) : laidMet Tryz.prog tLaidP ((tW os).forCall (fun _ _ => 0) ⟨#[], args, []⟩).memory := by
 have h : laidMet Tryz.prog tLaidP (tW os) := laidMet_layVars (w0 := tW0 os) (tLaidP.map (·.1)) [] (by rw [filter_all]; rfl) (by rw [filter_all]; exact t_fits os) (by rw [filter_all]; exact t_ifaces os) (by rw [filter_non]; exact LaidIn.none)
 exact h.of_heap (by simp [World.memory, World.forCall, Input.heap])
set_option maxHeartbeats 16000000 in
theorem t_hand (os : Os) (args : Array Value) : (tLaid.filter fun x => x.2.handleName?.isSome && x.2.funcsIn?.isNone).all (handleAtB Tryz.prog ((tW os).forCall (fun _ _ => 0) ⟨#[], args, []⟩).memory) = true := by as_aux_lemma => kernel_rfl
set_option maxHeartbeats 16000000 in
theorem t_funcs (os : Os) (args : Array Value) : funcsRun Tryz.prog ((tW os).forCall (fun _ _ => 0) ⟨#[], args, []⟩).memory 8 ((funcsListed tLaid).map (·.1)) = some ((funcsListed tLaid).map (·.2.funcsOut)) := by as_aux_lemma => kernel_rfl
theorem t_laid (os : Os) (args : Array Value) : laidMetH Tryz.prog tLaid ((tW os).forCall (fun _ _ => 0) ⟨#[], args, []⟩).memory := laidMetH_of_parts3 (fuel := 8) (t_met os args) (t_hand os args) (t_funcs os args)
set_option maxHeartbeats 16000000 in
theorem t_zip (os : Os) (args : Array Value) : ((tW os).forCall (fun _ _ => 0) ⟨#[], args, []⟩).variablesZipB Tryz.checked.prog = true := by as_aux_lemma => kernel_rfl
set_option maxHeartbeats 16000000 in
theorem t_rest (os : Os) (args : Array Value) : (((tW os).forCall (fun _ _ => 0) ⟨#[], args, []⟩).heap.toList.drop Tryz.checked.prog.globals.size).take ((begin Tryz.checked.prog (fun _ _ => 0) default).world.heap.size - Tryz.checked.prog.globals.size) = (begin Tryz.checked.prog (fun _ _ => 0) default).world.heap.toList.drop Tryz.checked.prog.globals.size := by as_aux_lemma => kernel_rfl
theorem t_shape (os : Os) (args : Array Value) : ((tW os).forCall (fun _ _ => 0) ⟨#[], args, []⟩).Shaped Tryz.checked.prog := World.shaped_of_ZipB (t_zip os args) (t_rest os args)
end Go.Proofs.YtidmgckmphcegaaGreatDoor
/-
 A row's witness, of a world whose shape is known.
-/
namespace Go.Proofs.YtidmgckmphcegaaGreatDoor
open Go
theorem witness_row_sh {H : Type} {enc : TypeId × Value → H} {C : Checked} {os : Os} {f : FuncId} {fn : Func} {s : OpenSpec} {conds : List PathCond} {apart : Bool} {laid : List (String × DataW Unit)} (modest : Bool) (w0 : World) (args : Array Value) (hos : w0.os = os)
    (hsh : (w0.forCall (fun _ _ => 0) ⟨#[], args, []⟩).Shaped C.prog)
    (hok : Input.okWideB C.prog (w0.forCall (fun _ _ => 0) ⟨#[], args, []⟩) f ⟨#[], args, []⟩ = true)
    (hrow : s.preRow enc C.prog fn conds apart laid (w0.forCall (fun _ _ => 0) ⟨#[], args, []⟩).memory args) :
    ∃ (w : World) (tape : Tape) (i : Input), w.os = os ∧ (w.forCall tape i).Shaped C.prog ∧ i.vars = [] ∧ Input.okWide C.prog (w.forCall tape i) .any w.heap.size f i ∧
      s.preRow enc C.prog fn conds apart laid (w.forCall tape i).memory i.args ∧ ({ modest := modest } : Assume).holds C.prog (lone (Frame.enter C.prog f i.args .normal) [] (w.forCall tape i)) :=
 ⟨w0, fun _ _ => 0, ⟨#[], args, []⟩, hos, hsh, (Input.okWide_of_okWideB (base := 0) hok).1, (Input.okWide_of_okWideB hok).2, hrow, by
  simp only [Assume.holds]
  exact ⟨by simp, by simp, fun _ => Modest.zero, by simp, by simp⟩⟩
end Go.Proofs.YtidmgckmphcegaaGreatDoor
