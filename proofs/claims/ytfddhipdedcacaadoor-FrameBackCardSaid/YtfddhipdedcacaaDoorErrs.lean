/-
  errors.Is where the target is one of api's errors: of nil, of one of api's errors, of a violation.
-/
import Derived.Test.YtfddhipdedcacaaDoorProg
import Derived.Test.YtfddhipdedcacaaDoorLaid
import Derived.WalkKit
import Derived.LaidEql
import Derived.Stop.Asserts
import Derived.RowKitTokens
import Derived.Lib.Hide
import Derived.Outline
namespace Go.Proofs.YtfddhipdedcacaaDoor
open Go.RowKit Go.Extern.Stop Go.Stop Go.Extern

/-- errors.New's make, and a violation: their types. -/
def tES : TypeId := 175
def tVi : TypeId := 92

theorem isTypeOf (v : Value) (w : World) : (callFunc 67 #[.iface 175 v]).run Tryd.prog w = .ok (.value (.iface 145 (.agg #[.pointer (some ⟨49, 175, none⟩)]))) w := by kernel_rfl
theorem isComparable (w : World) : (callFunc 120 #[.agg #[.pointer (some ⟨49, 175, none⟩)]]).run Tryd.prog w = .ok (.value (.bool true)) w := by kernel_rfl
theorem isMethodComparable (v : Value) (w : World) : (Go.method 304 145 v "Comparable").run Tryd.prog w = .ok (120, v) w := by kernel_rfl
theorem isComp : (Tryd.prog.info? 175).map (·.comparable) = some true := by kernel_rfl
theorem isSize : (Tryd.prog.info? 193).map (·.size) = some 1 := by kernel_rfl

/-! The method sets. -/
theorem noIsE (v : Value) (xT : TypeId) (w : World) : (Instr.typeAssert (.iface 175 v) xT 147 true).run Tryd.prog w = .ok (.tuple #[.nilIface, .bool false]) w := run_typeAssert_lacksB Tryd.underlying147 (by kernel_rfl) (by kernel_rfl) v xT w
theorem noUnwrapE (v : Value) (xT : TypeId) (w : World) : (Instr.typeAssert (.iface 175 v) xT 150 true).run Tryd.prog w = .ok (.tuple #[.nilIface, .bool false]) w := run_typeAssert_lacksB Tryd.underlying150 (by kernel_rfl) (by kernel_rfl) v xT w
theorem noUnwrapsE (v : Value) (xT : TypeId) (w : World) : (Instr.typeAssert (.iface 175 v) xT 151 true).run Tryd.prog w = .ok (.tuple #[.nilIface, .bool false]) w := run_typeAssert_lacksB Tryd.underlying151 (by kernel_rfl) (by kernel_rfl) v xT w
theorem hasIsV (v : Value) (xT : TypeId) (w : World) : (Instr.typeAssert (.iface 92 v) xT 147 true).run Tryd.prog w = .ok (.tuple #[.iface 92 v, .bool true]) w := run_typeAssert_hasB Tryd.underlying147 (by kernel_rfl) v xT w
theorem hasUnwrapV (v : Value) (xT : TypeId) (w : World) : (Instr.typeAssert (.iface 92 v) xT 150 true).run Tryd.prog w = .ok (.tuple #[.iface 92 v, .bool true]) w := run_typeAssert_hasB Tryd.underlying150 (by kernel_rfl) v xT w
theorem methodIsV (v : Value) (w : World) : (Go.method 304 92 v "Is").run Tryd.prog w = .ok (112, v) w := by kernel_rfl
theorem methodUnwrapV (v : Value) (w : World) : (Go.method 304 92 v "Unwrap").run Tryd.prog w = .ok (113, v) w := by kernel_rfl

/-- One of api's errors, as a value. -/
abbrev sv (a : Addr) : Value := .iface 175 (.pointer (some a))
/-- A violation, as a value. -/
abbrev vv (b o : Nat) : Value := .iface 92 (.pointer (some ⟨b, o, none⟩))

theorem is_same (a : Addr) (w : World) :
    Calls Tryd.prog 49 #[sv a, sv a] w fun e w' => e = .returned (.bool true) ∧ w' = w := by
  obtain ⟨i, hi, hcmp⟩ := Option.map_eq_some_iff.1 isComp
  obtain ⟨j, hj, hjs⟩ := Option.map_eq_some_iff.1 isSize
  have tT := isTypeOf
  have cT := isComparable
  have mR := isMethodComparable
  have heq := run_eql_iface_ptr_same (P := Tryd.prog) w a Tryd.underlying28 Tryd.underlying175 hi hcmp hj
  go_enter Tryd.func49, Tryd.ntmps49
  go_wp2
  refine wp_loop_rounds 1 ?_
  rw [rounds_succ]
  go_wp2
  go_ret
  exact ⟨rfl, rfl⟩

theorem is_nil (b : Addr) (w : World) :
    Calls Tryd.prog 49 #[.nilIface, sv b] w fun e w' => e = .returned (.bool false) ∧ w' = w := by
  have hn := run_eql_iface_nil_left (P := Tryd.prog) w 175 (.pointer (some b)) Tryd.underlying28
  go_enter Tryd.func49, Tryd.ntmps49
  go_wp2
  go_ret
  exact ⟨rfl, rfl⟩

theorem is_other (a b : Addr) (ca cb : Array Value) (ta tb : TypeId) (w : World) (hne : a ≠ b) (ha : w.heap[a.block]? = some (.cells ca ta (0, 0))) (hb : w.heap[b.block]? = some (.cells cb tb (0, 0))) :
    Calls Tryd.prog 49 #[sv a, sv b] w fun e w' => e = .returned (.bool false) ∧ w' = w := by
  obtain ⟨i, hi, hcmp⟩ := Option.map_eq_some_iff.1 isComp
  obtain ⟨j, hj, hjs⟩ := Option.map_eq_some_iff.1 isSize
  have tT := isTypeOf
  have cT := isComparable
  have mR := isMethodComparable
  have nE := noIsE
  have uE := noUnwrapE
  have vE := noUnwrapsE
  have heq := run_eql_iface_ptr_other (P := Tryd.prog) w Tryd.underlying28 Tryd.underlying175 hi hcmp hj (by rw [hjs]; decide) hne ha hb
  go_enter Tryd.func49, Tryd.ntmps49
  go_wp2
  refine wp_loop_rounds 1 ?_
  rw [rounds_succ]
  go_wp2
  go_ret
  exact ⟨rfl, rfl⟩
end Go.Proofs.YtfddhipdedcacaaDoor
