/-
  culvertref01.Bytes.
-/
import Derived.Test.YtnpmafnhbbaokaaGreatDoorBs
namespace Go.Proofs.YtnpmafnhbbaokaaGreatDoor
open Go.RowKit
set_option linter.unusedVariables false
set_option linter.unusedSimpArgs false
