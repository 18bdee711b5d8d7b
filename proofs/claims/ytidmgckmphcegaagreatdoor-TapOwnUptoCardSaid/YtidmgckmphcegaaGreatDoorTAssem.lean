/-
 TapAssembles, walked: every text's bytes, or its error.
-/
import Derived.Test.YtidmgckmphcegaaGreatDoorTJoins
import Derived.Test.YtidmgckmphcegaaGreatDoorTCanon
import Derived.Test.YtidmgckmphcegaaGreatDoorTRAss
namespace Go.Proofs.YtidmgckmphcegaaGreatDoor
open Go.RowKit Go.Proofs.YtidmgckmphcegaaGreatDoorW.PrintWords Go.Proofs.YtidmgckmphcegaaGreatDoorW.PrintLast Go.Proofs.YtidmgckmphcegaaGreatDoor.Px
set_option linter.unusedVariables false
set_option linter.unusedSimpArgs false
end Go.Proofs.YtidmgckmphcegaaGreatDoor
