/-
  errors.Is of a violation, where the target is one of api's errors.
-/
import Derived.Test.YtnpmafnhbbaokaaGreatDoorErrs
namespace Go.Proofs.YtnpmafnhbbaokaaGreatDoor
open Go.RowKit Go.Extern.Stop Go.Stop Go.Extern

theorem viol_is_yes (b o : Nat) (pa : Addr) (w : World) (h : w.cell? ⟨30, 0, none⟩ = some (sv pa)) :
    Calls Tryz.prog 170 #[.pointer (some ⟨b, o, none⟩), sv pa] w fun e w' => e = .returned (.bool true) ∧ w' = w := by
  obtain ⟨i, hi, hcmp⟩ := Option.map_eq_some_iff.1 isComp
  obtain ⟨j, hj, hjs⟩ := Option.map_eq_some_iff.1 isSize
  have heq := run_eql_iface_ptr_same (P := Tryz.prog) w pa Tryz.underlying26 Tryz.underlying285 hi hcmp hj
  go_enter Tryz.func170, Tryz.ntmps170
  go_wp2
  go_ret
  exact ⟨rfl, rfl⟩

theorem viol_is_no (b o : Nat) (tb pa : Addr) (ca cb : Array Value) (ta tc : TypeId) (w : World) (h : w.cell? ⟨30, 0, none⟩ = some (sv pa)) (hne : tb ≠ pa)
    (ha : w.heap[tb.block]? = some (.cells ca ta (0, 0))) (hb : w.heap[pa.block]? = some (.cells cb tc (0, 0))) :
    Calls Tryz.prog 170 #[.pointer (some ⟨b, o, none⟩), sv tb] w fun e w' => e = .returned (.bool false) ∧ w' = w := by
  obtain ⟨i, hi, hcmp⟩ := Option.map_eq_some_iff.1 isComp
  obtain ⟨j, hj, hjs⟩ := Option.map_eq_some_iff.1 isSize
  have heq := run_eql_iface_ptr_other (P := Tryz.prog) w Tryz.underlying26 Tryz.underlying285 hi hcmp hj (by rw [hjs]; decide) hne ha hb
  go_enter Tryz.func170, Tryz.ntmps170
  go_wp2
  go_ret
  exact ⟨rfl, rfl⟩

theorem viol_unwrap (b o : Nat) (v : Value) (w : World) (h : w.cell? ⟨b, o + 1, none⟩ = some v) :
    Calls Tryz.prog 171 #[.pointer (some ⟨b, o, none⟩)] w fun e w' => e = .returned v ∧ w' = w := by
  go_enter Tryz.func171, Tryz.ntmps171
  go_wp2
  go_ret
  exact ⟨rfl, rfl⟩

theorem isv_protocol (b o : Nat) (pa : Addr) (w : World) (h : w.cell? ⟨30, 0, none⟩ = some (sv pa)) :
    Calls Tryz.prog 20 #[vv b o, sv pa] w fun e w' => e = .returned (.bool true) ∧ w' = w := by
  have tT := isTypeOf
  have cT := isComparable
  have mR := isMethodComparable
  have hI := hasIsV
  have mI := methodIsV
  have hty := run_eql_iface_types (P := Tryz.prog) 146 285 (.pointer (some ⟨b, o, none⟩)) (.pointer (some pa)) Tryz.underlying26 (by decide) w
  have H := Lib.hid (viol_is_yes b o pa w h)
  clear h
  go_enter Tryz.func20, Tryz.ntmps20
  go_wp2
  refine wp_loop_rounds 1 ?_
  rw [rounds_succ]
  go_wp2_with (go_at_call 170; refine H.out.mono ?_; rintro e w1 ⟨rfl, rfl⟩)
  go_ret
  exact ⟨rfl, rfl⟩

theorem isv_why (b o : Nat) (tb pa : Addr) (ca cb : Array Value) (ta tc : TypeId) (w : World) (h : w.cell? ⟨30, 0, none⟩ = some (sv pa)) (hne : tb ≠ pa)
    (ha : w.heap[tb.block]? = some (.cells ca ta (0, 0))) (hb : w.heap[pa.block]? = some (.cells cb tc (0, 0))) (hw : w.cell? ⟨b, o + 1, none⟩ = some (sv tb)) :
    Calls Tryz.prog 20 #[vv b o, sv tb] w fun e w' => e = .returned (.bool true) ∧ w' = w := by
  obtain ⟨i, hi, hcmp⟩ := Option.map_eq_some_iff.1 isComp
  obtain ⟨j, hj, hjs⟩ := Option.map_eq_some_iff.1 isSize
  have heq := run_eql_iface_ptr_same (P := Tryz.prog) w tb Tryz.underlying26 Tryz.underlying285 hi hcmp hj
  have tT := isTypeOf
  have cT := isComparable
  have mR := isMethodComparable
  have hI := hasIsV
  have hU := hasUnwrapV
  have mI := methodIsV
  have mU := methodUnwrapV
  have hty := run_eql_iface_types (P := Tryz.prog) 146 285 (.pointer (some ⟨b, o, none⟩)) (.pointer (some tb)) Tryz.underlying26 (by decide) w
  have H := Lib.hid (viol_is_no b o tb pa ca cb ta tc w h hne ha hb)
  have U := Lib.hid (viol_unwrap b o (sv tb) w hw)
  clear h hne ha hb hw
  go_enter Tryz.func20, Tryz.ntmps20
  go_wp2
  refine wp_loop_rounds 2 ?_
  rw [rounds_succ]
  go_wp2_with (first | (go_at_call 170; refine H.out.mono ?_; rintro e w1 ⟨rfl, rfl⟩) | (go_at_call 171; refine U.out.mono ?_; rintro e w1 ⟨rfl, rfl⟩))
  rw [rounds_succ]
  go_wp2
  go_ret
  exact ⟨rfl, rfl⟩

theorem isv_other (b o : Nat) (tb wa pa : Addr) (ca cb cw : Array Value) (ta tc tw : TypeId) (w : World) (h : w.cell? ⟨30, 0, none⟩ = some (sv pa)) (hne : tb ≠ pa) (hne2 : wa ≠ tb)
    (ha : w.heap[tb.block]? = some (.cells ca ta (0, 0))) (hb : w.heap[pa.block]? = some (.cells cb tc (0, 0))) (hwa : w.heap[wa.block]? = some (.cells cw tw (0, 0))) (hw : w.cell? ⟨b, o + 1, none⟩ = some (sv wa)) :
    Calls Tryz.prog 20 #[vv b o, sv tb] w fun e w' => e = .returned (.bool false) ∧ w' = w := by
  obtain ⟨i, hi, hcmp⟩ := Option.map_eq_some_iff.1 isComp
  obtain ⟨j, hj, hjs⟩ := Option.map_eq_some_iff.1 isSize
  have heq := run_eql_iface_ptr_other (P := Tryz.prog) w Tryz.underlying26 Tryz.underlying285 hi hcmp hj (by rw [hjs]; decide) hne2 hwa ha
  have tT := isTypeOf
  have cT := isComparable
  have mR := isMethodComparable
  have hI := hasIsV
  have hU := hasUnwrapV
  have mI := methodIsV
  have mU := methodUnwrapV
  have nE := noIsE
  have uE := noUnwrapE
  have vE := noUnwrapsE
  have hty := run_eql_iface_types (P := Tryz.prog) 146 285 (.pointer (some ⟨b, o, none⟩)) (.pointer (some tb)) Tryz.underlying26 (by decide) w
  have H := Lib.hid (viol_is_no b o tb pa ca cb ta tc w h hne ha hb)
  have U := Lib.hid (viol_unwrap b o (sv wa) w hw)
  clear h hne ha hb hw hwa hne2
  go_enter Tryz.func20, Tryz.ntmps20
  go_wp2
  refine wp_loop_rounds 2 ?_
  rw [rounds_succ]
  go_wp2_with (first | (go_at_call 170; refine H.out.mono ?_; rintro e w1 ⟨rfl, rfl⟩) | (go_at_call 171; refine U.out.mono ?_; rintro e w1 ⟨rfl, rfl⟩))
  rw [rounds_succ]
  go_wp2
  go_ret
  exact ⟨rfl, rfl⟩
end Go.Proofs.YtnpmafnhbbaokaaGreatDoor
