/-
  culvertref05.SameFrames: of two lists that read the same.
-/
import Derived.Test.YtidmgckmphcegaaGreatDoorMC
import Derived.Test.YtidmgckmphcegaaGreatDoorMB
namespace Go.Proofs.YtidmgckmphcegaaGreatDoor
open Go.RowKit Go.Proofs.YtidmgckmphcegaaGreatDoorW.PrintWords Go.Proofs.YtidmgckmphcegaaGreatDoorW.PrintLast Go.Proofs.YtidmgckmphcegaaGreatDoor.Px
set_option linter.unusedVariables false
set_option linter.unusedSimpArgs false
theorem conv_runC {o : Oper} {a : Act} {x : Operand} {A : Option Addr} {n c : Nat} {xs : List Int} {w : World} (hop : o.op = .convert 26 9 x) (hx : a.eval x = .slice A n c) (h : (Kd.int .u8).C w A n xs) : (execOp a.eval o).run Tryz.prog w = .ok (.value (.string (strOfNums xs))) w := by
  unfold execOp
  simp only [hop, hx, Sem.run_bind, Kd.C_string (P := Tryz.prog) (A := A) (c := c) Tryz.underlying26 Tryz.underlying5 Tryz.underlying9 h, Result.andThen_ok, Sem.run_pure]
theorem C_drew {w : World} {A : Option Addr} {n : Nat} {xs : List Int} (h : (Kd.int .u8).C w A n xs) : (Kd.int .u8).C w.drew A n xs := h
/-- A list of frames that reads as fs. -/
structure RF (w : World) (A : Option Addr) (n c : Nat) (fs : List Fr) : Prop where
  rd : Kd.C kFr w A n fs
  cap : n ≤ c
  max : c ≤ 9223372036854775807
end Go.Proofs.YtidmgckmphcegaaGreatDoor
