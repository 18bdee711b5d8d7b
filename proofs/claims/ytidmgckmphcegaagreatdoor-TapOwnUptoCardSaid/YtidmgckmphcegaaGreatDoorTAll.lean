/-
 What a tap tells in all, and what Assemble reads of it; without a program.
-/
import Derived.Test.YtidmgckmphcegaaGreatDoorML
import Derived.Test.YtidmgckmphcegaaGreatDoorMF
namespace Go.Proofs.YtidmgckmphcegaaGreatDoor
open Go.RowKit Go.Proofs.YtidmgckmphcegaaGreatDoorW.PrintWords Go.Proofs.YtidmgckmphcegaaGreatDoorW.PrintLast Go.Proofs.YtidmgckmphcegaaGreatDoor.Px
set_option linter.unusedVariables false
set_option linter.unusedSimpArgs false
end Go.Proofs.YtidmgckmphcegaaGreatDoor
