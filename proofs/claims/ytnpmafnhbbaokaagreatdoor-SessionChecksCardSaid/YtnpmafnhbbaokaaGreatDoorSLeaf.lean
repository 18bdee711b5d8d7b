/-
  Layer 18's leaves: what New makes.
-/
import Derived.Test.YtnpmafnhbbaokaaGreatDoorGood
import Derived.Test.YtnpmafnhbbaokaaGreatDoorSw
import Derived.Maps.Own
namespace Go.Proofs.YtnpmafnhbbaokaaGreatDoor
open Go Go.RowKit
set_option linter.unusedVariables false
set_option linter.unusedSimpArgs false
def pt (b : Nat) : Value := .pointer (some ⟨b, 0, none⟩)
theorem credit_new {w : World} (n : Int) (h1 : 1 ≤ n) (h2 : n ≤ 2147483647) :
    Calls Tryz.prog 53 #[.int .i64 n] w fun e w' => e = .returned (.tuple #[pt w.heap.size, .nilIface]) ∧ w' = w.alloc (.cells #[.int .u32 n, .int .u32 n, .int .u64 0] 190) := by
  have hw : IntKind.u32.wrap n = n := by rw [IntKind.wrap_u32]; omega
  go_enter Tryz.func53, Tryz.ntmps53
  go_wp2_with fail
  go_ret2
  exact ⟨rfl, rfl⟩
theorem grant_new {w : World} (n : Int) (h1 : 1 ≤ n) (h2 : n ≤ 2147483647) :
    Calls Tryz.prog 54 #[.int .i64 n] w fun e w' => e = .returned (.tuple #[pt w.heap.size, .nilIface]) ∧ w' = w.alloc (.cells #[.int .i64 n, .int .i64 0, .int .i64 0, .int .i64 n] 194) := by
  go_enter Tryz.func54, Tryz.ntmps54
  go_wp2_with fail
  go_ret2
  exact ⟨rfl, rfl⟩
theorem ring_new {w : World} (n : Int) (h1 : 0 ≤ n) (h2 : n ≤ 2147483647) :
    Calls Tryz.prog 55 #[.int .i64 n] w fun e w' => e = .returned (.tuple #[pt w.heap.size, .nilIface]) ∧ w' = w.alloc (.cells #[.int .i64 n, .slice none 0 0, .int .i64 0, .int .i64 0] 188) := by
  go_enter Tryz.func55, Tryz.ntmps55
  go_wp2_with fail
  go_ret2
  exact ⟨rfl, rfl⟩
theorem fifoB_new {w : World} (n m : Int) (h1 : 0 ≤ n) (h2 : 0 ≤ m) :
    Calls Tryz.prog 42 #[.int .i64 n, .int .i64 m] w fun e w' => e = .returned (.tuple #[pt w.heap.size, .nilIface]) ∧ w' = w.alloc (.cells #[.int .i64 n, .int .i64 m, .slice none 0 0, .int .i64 0] 168) := by
  go_enter Tryz.func42, Tryz.ntmps42
  go_wp2_with fail
  go_ret2
  exact ⟨rfl, rfl⟩
theorem fifoU_new {w : World} (n m : Int) (h1 : 0 ≤ n) (h2 : 0 ≤ m) :
    Calls Tryz.prog 105 #[.int .i64 n, .int .i64 m] w fun e w' => e = .returned (.tuple #[pt w.heap.size, .nilIface]) ∧ w' = w.alloc (.cells #[.int .i64 n, .int .i64 m, .slice none 0 0, .int .i64 0] 230) := by
  go_enter Tryz.func105, Tryz.ntmps105
  go_wp2_with fail
  go_ret2
  exact ⟨rfl, rfl⟩
theorem feedD_new {w : World} (n : Int) (h1 : 1 ≤ n) (h2 : n ≤ 65536) :
    Calls Tryz.prog 81 #[.int .i64 n] w fun e w' => e = .returned (.tuple #[pt w.heap.size, .nilIface]) ∧ w' = w.alloc (.cells #[.int .i64 n, .slice none 0 0, .pointer none] 244) := by
  go_enter Tryz.func81, Tryz.ntmps81
  go_wp2_with fail
  go_ret2
  exact ⟨rfl, rfl⟩
theorem table_new {w : World} (n : Int) (h1 : 0 ≤ n) :
    Calls Tryz.prog 43 #[.int .i64 n] w fun e w' => e = .returned (.tuple #[pt (w.heap.size + 1), .nilIface]) ∧ w' = (w.alloc (.map #[] 0)).alloc (.cells #[.int .i64 n, .map (some w.heap.size)] 120) := by
  have hmm := @run_makeMap Tryz.prog
  go_enter Tryz.func43, Tryz.ntmps43
  go_wp2_with fail
  go_ret2
  exact ⟨by first | rfl | simp [pt], by first | rfl | simp [pt]⟩
theorem out_new {w : World} :
    Calls Tryz.prog 17 #[] w fun e w' => e = .returned (pt (w.heap.size + 1)) ∧ w' = (w.alloc (.cells #[.int .i64 9223372036854775807, .int .i64 9223372036854775807, .slice none 0 0, .int .i64 0] 168)).alloc (.cells #[pt w.heap.size, .int .i64 0] 103) := by
  go_enter Tryz.func17, Tryz.ntmps17
  go_wp2_with fail
  refine (fifoB_new _ _ (by omega) (by omega)).mono ?_
  rintro e w1 ⟨rfl, rfl⟩
  unfold pt
  go_wp2_with fail
  go_ret
  exact ⟨by first | rfl | simp [pt], by first | rfl | simp [pt]⟩
theorem backlog_new {w : World} (n : Int) (h1 : 1 ≤ n) (h2 : n ≤ 1024) :
    Calls Tryz.prog 78 #[.int .i64 n] w fun e w' => e = .returned (.tuple #[pt (w.heap.size + 1), .nilIface]) ∧ w' = (w.alloc (.cells #[.int .i64 n, .int .i64 0, .slice none 0 0, .int .i64 0] 230)).alloc (.cells #[pt w.heap.size] 240) := by
  go_enter Tryz.func78, Tryz.ntmps78
  go_wp2_with fail
  refine (fifoU_new n 0 (by omega) (by omega)).mono ?_
  rintro e w1 ⟨rfl, rfl⟩
  unfold pt
  go_wp2_with fail
  go_ret2
  exact ⟨by first | rfl | simp [pt], by first | rfl | simp [pt]⟩
theorem lane_new {w : World} :
    Calls Tryz.prog 106 #[] w fun e w' => e = .returned (pt (w.heap.size + 1)) ∧ w' = (w.alloc (.map #[] 0)).alloc (.cells #[.slice none 0 0, .map (some w.heap.size), .int .i64 0, .int .i64 0, .int .i64 0, .int .i64 0, .int .i64 0, .int .i64 0, .int .i64 0, .int .i64 0, .int .i64 0] 204) := by
  have hmm := @run_makeMap Tryz.prog
  go_enter Tryz.func106, Tryz.ntmps106
  go_wp2_with fail
  go_ret
  exact ⟨by first | rfl | simp [pt], by first | rfl | simp [pt]⟩
theorem robin_new {w : World} :
    Calls Tryz.prog 107 #[] w fun e w' => e = .returned (pt (w.heap.size + 1)) ∧ w' = (w.alloc (.map #[] 0)).alloc (.cells #[.slice none 0 0, .map (some w.heap.size)] 223) := by
  have hmm := @run_makeMap Tryz.prog
  go_enter Tryz.func107, Tryz.ntmps107
  go_wp2_with fail
  go_ret
  exact ⟨by first | rfl | simp [pt], by first | rfl | simp [pt]⟩
/-- A new lane's cells. -/
def lane0 (m : Nat) : Array Value := #[.slice none 0 0, .map (some m), .int .i64 0, .int .i64 0, .int .i64 0, .int .i64 0, .int .i64 0, .int .i64 0, .int .i64 0, .int .i64 0, .int .i64 0]
def schedW (w : World) : World := ((((w.alloc (.map #[] 0)).alloc (.cells (lane0 w.heap.size) 204)).alloc (.map #[] 0)).alloc (.cells #[.slice none 0 0, .map (some (w.heap.size + 2))] 223)).alloc (.cells #[pt (w.heap.size + 1), pt (w.heap.size + 3)] 142)
theorem sched_new {w : World} :
    Calls Tryz.prog 79 #[] w fun e w' => e = .returned (pt (w.heap.size + 4)) ∧ w' = schedW w := by
  go_enter Tryz.func79, Tryz.ntmps79
  go_wp2_with fail
  refine lane_new.mono ?_
  rintro e w1 ⟨rfl, rfl⟩
  unfold pt
  go_wp2_with fail
  refine robin_new.mono ?_
  rintro e w1 ⟨rfl, rfl⟩
  unfold pt
  go_wp2_with fail
  go_ret
  exact ⟨by first | rfl | simp [pt], by first | rfl | simp [schedW, lane0, pt]⟩
theorem pings_new {w : World} (n : Int) (h1 : 1 ≤ n) (h2 : n ≤ 1024) :
    Calls Tryz.prog 80 #[.int .i64 n] w fun e w' => e = .returned (.tuple #[pt (w.heap.size + 2), .nilIface]) ∧ w' = ((w.alloc (.cells #[.int .i64 n, .int .i64 n, .slice none 0 0, .int .i64 0] 230)).alloc (.map #[] 0)).alloc (.cells #[.int .i64 n, .int .u32 0, .map (some (w.heap.size + 1)), .int .i64 0, .slice none 0 0, pt w.heap.size] 159) := by
  have hmm := @run_makeMap Tryz.prog
  go_enter Tryz.func80, Tryz.ntmps80
  go_wp2_with fail
  refine (fifoU_new n n (by omega) (by omega)).mono ?_
  rintro e w1 ⟨rfl, rfl⟩
  unfold pt
  go_wp2_with fail
  go_ret2
  exact ⟨by first | rfl | simp [pt], by first | rfl | simp [pt]⟩
/-- The table of the ends' numbers, in block g. -/
def Par (w : World) : Prop := (w.cell? ⟨4, 0, none⟩ = some (.int .u64 2) ∧ w.cell? ⟨4, 1, none⟩ = some (.int .u64 4294967294) ∧ w.cell? ⟨4, 2, none⟩ = some (.int .u64 1) ∧ w.cell? ⟨4, 3, none⟩ = some (.int .u64 4294967295))
theorem Par.below {w w' : World} (h : Par w) (hb : Below w.heap.size w w') : Par w' := ⟨keepA hb h.1, keepA hb h.2.1, keepA hb h.2.2.1, keepA hb h.2.2.2⟩
def lst (c : Bool) : Int := if c then 1 else 2
def grt (c : Bool) : Int := if c then 4294967295 else 4294967294
theorem ids_new {w : World} (c : Bool) (n : Int) (h1 : 0 ≤ n) (h2 : n ≤ 2147483647) (hP : Par w) :
    Calls Tryz.prog 18 #[.bool c, .int .i64 n] w fun e w' => e = .returned (.tuple #[pt (w.heap.size + 1), .nilIface]) ∧ Below w.heap.size w w' ∧ w'.heap.size = w.heap.size + 2 ∧ w'.heap[w.heap.size + 1]? = some (.cells #[.int .u64 (lst c), .int .u64 (grt c), .int .u64 (lst c + 2 * n), .int .u64 (lst c + 2 * n), .int .u32 0, .int .u32 0] 109 (0, 0)) := by
  obtain ⟨p0, p1, p2, p3⟩ := hP
  have hw : IntKind.u64.wrap n = n := by rw [IntKind.wrap_u64]; omega
  have hw2 : IntKind.u64.wrap (2 * n) = 2 * n := by rw [IntKind.wrap_u64]; omega
  have hw3 : IntKind.u64.wrap (2 + 2 * n) = 2 + 2 * n := by rw [IntKind.wrap_u64]; omega
  have hw4 : IntKind.u64.wrap (1 + 2 * n) = 1 + 2 * n := by rw [IntKind.wrap_u64]; omega
  have hlt : 4 < w.heap.size := World.block_lt_of_cell? w _ p0
  have hne : ¬ (4 = w.heap.size) := by omega
  have hne' : ¬ (w.heap.size = 4) := by omega
  cases c
  all_goals
    go_enter Tryz.func18, Tryz.ntmps18
    go_wp2_with fail
    go_ret2
    refine ⟨by first | rfl | simp [pt], ?_, by simp, ?_⟩
    · repeat (first | exact Below.refl _ _ | refine Below.alloc ?_ (by simp) _ | refine Below.setCell ?_ (by simp) _)
    · refine (alloc_is _ (by simp)).trans ?_
      simp [lst, grt]
end Go.Proofs.YtnpmafnhbbaokaaGreatDoor
