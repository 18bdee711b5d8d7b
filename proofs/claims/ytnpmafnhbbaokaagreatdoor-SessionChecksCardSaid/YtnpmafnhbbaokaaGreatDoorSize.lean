/-
  frame.Size and the reference's Size.
-/
import Derived.Test.YtnpmafnhbbaokaaGreatDoorEnc
import Derived.Test.YtnpmafnhbbaokaaGreatDoorDec
namespace Go.Proofs.YtnpmafnhbbaokaaGreatDoor
open Go.RowKit
set_option linter.unusedVariables false
set_option linter.unusedSimpArgs false
/-- How many bytes of payload follow a header. -/
def szF (ty ln : Int) : Int := if ty = 0 then ln else 0
set_option maxRecDepth 100000 in
theorem size_any (ver ty fl st ln : Int) (w : World) (l0 : 0 ≤ ln) (l1 : ln ≤ 4294967295) :
    Calls Tryz.prog 102 #[hdr ver ty fl st ln] w fun e w' => e = .returned (.int .i64 (szF ty ln)) ∧ Below w.heap.size w w' := by
  have hb : Below w.heap.size w (w.alloc (.cells #[.int .u8 ver, .int .u8 ty, .int .u16 fl, .int .u32 st, .int .u32 ln] 87)) := (Below.refl _ _).alloc (Nat.le_refl _) _
  by_cases h : ty = 0
  · subst h
    go_enter Tryz.func102, Tryz.ntmps102
    go_wp2_with fail
    go_ret
    exact ⟨rfl, hb⟩
  · rw [szF, if_neg h]
    have h' : (ty == 0) = false := by simpa using h
    go_enter Tryz.func102, Tryz.ntmps102
    go_wp2_with fail
    go_ret
    exact ⟨rfl, hb⟩
