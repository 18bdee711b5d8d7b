/-
 TapParses, walked: every line's frame, or its error.
-/
import Derived.Test.YtidmgckmphcegaaGreatDoorTCanon
import Derived.Test.YtidmgckmphcegaaGreatDoorTRPar
import Derived.Test.YtidmgckmphcegaaGreatDoorTRBs
namespace Go.Proofs.YtidmgckmphcegaaGreatDoor
open Go.RowKit Go.Proofs.YtidmgckmphcegaaGreatDoorW.PrintWords Go.Proofs.YtidmgckmphcegaaGreatDoorW.PrintLast Go.Proofs.YtidmgckmphcegaaGreatDoor.Px
set_option linter.unusedVariables false
set_option linter.unusedSimpArgs false
theorem fbox (w : World) (ver ty fl st ln : Int) (v : Value) : ∃ W, W = w.alloc (.cells #[.int .u8 ver, .int .u8 ty, .int .u16 fl, .int .u32 st, .int .u32 ln, v] 28) ∧ Below w.heap.size w W ∧ W.heap[w.heap.size]? = some (.cells #[.int .u8 ver, .int .u8 ty, .int .u16 fl, .int .u32 st, .int .u32 ln, v] 28 (0, 0)) :=
 ⟨_, rfl, (Below.refl _ _).alloc (Nat.le_refl _) _, alloc_at _ _⟩
end Go.Proofs.YtidmgckmphcegaaGreatDoor
