/-
  errors.Is where the target is one of api's errors: of nil, of one of api's errors, of a violation.
-/
import Derived.Test.YtnpmafnhbbaokaaGreatDoorProg
import Derived.Test.YtnpmafnhbbaokaaGreatDoorLaid
import Derived.WalkKit
import Derived.LaidEql
import Derived.Stop.Asserts
import Derived.RowKitTokens
import Derived.Lib.Hide
import Derived.Outline
namespace Go.Proofs.YtnpmafnhbbaokaaGreatDoor
open Go.RowKit Go.Extern.Stop Go.Stop Go.Extern

/-- errors.New's make, and a violation: their types. -/
def tES : TypeId := 285
def tVi : TypeId := 146

theorem isTypeOf (v : Value) (w : World) : (callFunc 45 #[.iface 285 v]).run Tryz.prog w = .ok (.value (.iface 177 (.agg #[.pointer (some ⟨46, 285, none⟩)]))) w := by kernel_rfl
theorem isComparable (w : World) : (callFunc 176 #[.agg #[.pointer (some ⟨46, 285, none⟩)]]).run Tryz.prog w = .ok (.value (.bool true)) w := by kernel_rfl
theorem isMethodComparable (v : Value) (w : World) : (Go.method 420 177 v "Comparable").run Tryz.prog w = .ok (176, v) w := by kernel_rfl
theorem isComp : (Tryz.prog.info? 285).map (·.comparable) = some true := by kernel_rfl
theorem isSize : (Tryz.prog.info? 309).map (·.size) = some 1 := by kernel_rfl

/-! The method sets. -/
theorem noIsE (v : Value) (xT : TypeId) (w : World) : (Instr.typeAssert (.iface 285 v) xT 179 true).run Tryz.prog w = .ok (.tuple #[.nilIface, .bool false]) w := run_typeAssert_lacksB Tryz.underlying179 (by kernel_rfl) (by kernel_rfl) v xT w
theorem noUnwrapE (v : Value) (xT : TypeId) (w : World) : (Instr.typeAssert (.iface 285 v) xT 182 true).run Tryz.prog w = .ok (.tuple #[.nilIface, .bool false]) w := run_typeAssert_lacksB Tryz.underlying182 (by kernel_rfl) (by kernel_rfl) v xT w
theorem noUnwrapsE (v : Value) (xT : TypeId) (w : World) : (Instr.typeAssert (.iface 285 v) xT 183 true).run Tryz.prog w = .ok (.tuple #[.nilIface, .bool false]) w := run_typeAssert_lacksB Tryz.underlying183 (by kernel_rfl) (by kernel_rfl) v xT w
theorem hasIsV (v : Value) (xT : TypeId) (w : World) : (Instr.typeAssert (.iface 146 v) xT 179 true).run Tryz.prog w = .ok (.tuple #[.iface 146 v, .bool true]) w := run_typeAssert_hasB Tryz.underlying179 (by kernel_rfl) v xT w
theorem hasUnwrapV (v : Value) (xT : TypeId) (w : World) : (Instr.typeAssert (.iface 146 v) xT 182 true).run Tryz.prog w = .ok (.tuple #[.iface 146 v, .bool true]) w := run_typeAssert_hasB Tryz.underlying182 (by kernel_rfl) v xT w
theorem methodIsV (v : Value) (w : World) : (Go.method 420 146 v "Is").run Tryz.prog w = .ok (170, v) w := by kernel_rfl
theorem methodUnwrapV (v : Value) (w : World) : (Go.method 420 146 v "Unwrap").run Tryz.prog w = .ok (171, v) w := by kernel_rfl

/-- One of api's errors, as a value. -/
abbrev sv (a : Addr) : Value := .iface 285 (.pointer (some a))
/-- A violation, as a value. -/
abbrev vv (b o : Nat) : Value := .iface 146 (.pointer (some ⟨b, o, none⟩))

theorem is_same (a : Addr) (w : World) :
    Calls Tryz.prog 20 #[sv a, sv a] w fun e w' => e = .returned (.bool true) ∧ w' = w := by
  obtain ⟨i, hi, hcmp⟩ := Option.map_eq_some_iff.1 isComp
  obtain ⟨j, hj, hjs⟩ := Option.map_eq_some_iff.1 isSize
  have tT := isTypeOf
  have cT := isComparable
  have mR := isMethodComparable
  have heq := run_eql_iface_ptr_same (P := Tryz.prog) w a Tryz.underlying26 Tryz.underlying285 hi hcmp hj
  go_enter Tryz.func20, Tryz.ntmps20
  go_wp2
  refine wp_loop_rounds 1 ?_
  rw [rounds_succ]
  go_wp2
  go_ret
  exact ⟨rfl, rfl⟩

theorem is_nil (b : Addr) (w : World) :
    Calls Tryz.prog 20 #[.nilIface, sv b] w fun e w' => e = .returned (.bool false) ∧ w' = w := by
  have hn := run_eql_iface_nil_left (P := Tryz.prog) w 285 (.pointer (some b)) Tryz.underlying26
  go_enter Tryz.func20, Tryz.ntmps20
  go_wp2
  go_ret
  exact ⟨rfl, rfl⟩

theorem is_other (a b : Addr) (ca cb : Array Value) (ta tb : TypeId) (w : World) (hne : a ≠ b) (ha : w.heap[a.block]? = some (.cells ca ta (0, 0))) (hb : w.heap[b.block]? = some (.cells cb tb (0, 0))) :
    Calls Tryz.prog 20 #[sv a, sv b] w fun e w' => e = .returned (.bool false) ∧ w' = w := by
  obtain ⟨i, hi, hcmp⟩ := Option.map_eq_some_iff.1 isComp
  obtain ⟨j, hj, hjs⟩ := Option.map_eq_some_iff.1 isSize
  have tT := isTypeOf
  have cT := isComparable
  have mR := isMethodComparable
  have nE := noIsE
  have uE := noUnwrapE
  have vE := noUnwrapsE
  have heq := run_eql_iface_ptr_other (P := Tryz.prog) w Tryz.underlying26 Tryz.underlying285 hi hcmp hj (by rw [hjs]; decide) hne ha hb
  go_enter Tryz.func20, Tryz.ntmps20
  go_wp2
  refine wp_loop_rounds 1 ?_
  rw [rounds_succ]
  go_wp2
  go_ret
  exact ⟨rfl, rfl⟩
end Go.Proofs.YtnpmafnhbbaokaaGreatDoor
