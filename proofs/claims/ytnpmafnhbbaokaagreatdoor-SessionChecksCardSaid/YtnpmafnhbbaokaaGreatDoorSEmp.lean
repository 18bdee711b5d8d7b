/-
  A range over an empty map; slices.Sort of nothing; table.IDs, table.All of an empty table; session.count of no ticket.
-/
import Derived.Test.YtnpmafnhbbaokaaGreatDoorSNewS
import Derived.Maps.RangeRun
import Derived.Handy
namespace Go.Proofs.YtnpmafnhbbaokaaGreatDoor
open Go Go.RowKit
set_option linter.unusedVariables false
set_option linter.unusedSimpArgs false
theorem range0 {W : World} {b : Nat} {es : Array MapEntry} {cl : Nat} {t k v : TypeId} (hu : Tryz.prog.underlying t = some (.map k v)) (h : W.heap[b]? = some (.map es cl)) :
    (Instr.range t (.map (some b))).run Tryz.prog W = .ok (.pointer (some ⟨W.heap.size, 0, none⟩)) (W.alloc (.mapIter (some b) cl #[] cl)) := by
  simp [Instr.range, run_underlying hu, MapKept.run_getObj_map h, Result.andThen, newObj, Sem.run]
theorem next0 {W : World} {b r cl : Nat} {ty : TypeId} (hr : W.heap[r]? = some (.mapIter (some b) cl #[] cl)) (h : W.heap[b]? = some (.map #[] cl)) :
    (Instr.next (.pointer (some ⟨r, 0, none⟩)) false ty).run Tryz.prog W = .ok (.tuple #[.bool false]) W := by
  rcases run_next_at (P := Tryz.prog) W ty r b cl cl #[] #[] cl hr h (by simp) (Nat.le_refl _) with ⟨_, h1⟩ | ⟨e, he, _⟩
  · exact h1
  · simp [leftOf] at he
set_option maxRecDepth 100000 in
theorem len64_0 {w : World} : Calls Tryz.prog 133 #[.int .u64 0] w fun e w' => e = .returned (.int .i64 0) ∧ w' = w := by
  go_enter Tryz.func133, Tryz.ntmps133
  go_wp2_with fail
  go_ret
  exact ⟨by kernel_rfl, rfl⟩
theorem len_0 {w : World} : Calls Tryz.prog 109 #[.int .u64 0] w fun e w' => e = .returned (.int .i64 0) ∧ w' = w := by
  go_enter Tryz.func109, Tryz.ntmps109
  go_wp2_with fail
  refine len64_0.mono ?_
  rintro e w1 ⟨rfl, rfl⟩
  go_wp2_with fail
  go_ret
  exact ⟨rfl, rfl⟩
theorem ins_0 {w : World} : Calls Tryz.prog 123 #[.slice none 0 0, .int .i64 0, .int .i64 0] w fun e w' => e = .returned (.tuple #[]) ∧ w' = w := by
  go_enter Tryz.func123, Tryz.ntmps123
  go_wp2_with fail
  go_rounds 1
  all_goals
    go_end0
    exact ⟨rfl, rfl⟩
set_option maxRecDepth 100000 in
theorem pdq_0 {w : World} : Calls Tryz.prog 108 #[.slice none 0 0, .int .i64 0, .int .i64 0, .int .i64 0] w fun e w' => e = .returned (.tuple #[]) ∧ w' = w := by
  go_enter Tryz.func108, Tryz.ntmps108
  go_wp2_with fail
  refine wp_loop_rounds 1 ?_
  rw [rounds_succ]
  go_wp2_with fail
  refine ins_0.mono ?_
  rintro e w1 ⟨rfl, rfl⟩
  go_wp2_with fail
  refine bodyPost_ret (results_none rfl _ _ _) rfl ?_
  exact ⟨rfl, rfl⟩
theorem sort_0 {w : World} : Calls Tryz.prog 82 #[.slice none 0 0] w fun e w' => e = .returned (.tuple #[]) ∧ w' = w := by
  go_enter Tryz.func82, Tryz.ntmps82
  go_wp2_with fail
  refine len_0.mono ?_
  rintro e w1 ⟨rfl, rfl⟩
  go_wp2_with fail
  refine pdq_0.mono ?_
  rintro e w1 ⟨rfl, rfl⟩
  go_wp2_with fail
  go_end0
  exact ⟨rfl, rfl⟩
theorem ids_0 {w : World} {gt gm cl : Nat} {m : Int} (ht : w.heap[gt]? = some (.cells #[.int .i64 m, .map (some gm)] 120 (0, 0))) (hm : w.heap[gm]? = some (.map #[] cl)) :
    Calls Tryz.prog 47 #[pt gt] w fun e w' => e = .returned (.slice none 0 0) ∧ Below w.heap.size w w' := by
  have c1 : w.cell? ⟨gt, 1, none⟩ = some (.map (some gm)) := cell_blk ht rfl
  have hr := range0 (t := 49) Tryz.underlying49 hm
  have hn : ∀ ty, _ := fun ty => next0 (ty := ty) (alloc_is (w := w) (.mapIter (some gm) cl #[] cl) rfl) (alloc_old _ hm)
  clear ht hm
  go_enter Tryz.func47, Tryz.ntmps47
  unfold pt
  go_wp2_with fail
  refine wp_loop_rounds 1 ?_
  rw [rounds_succ]
  go_wp2_with fail
  refine sort_0.mono ?_
  rintro e w1 ⟨rfl, rfl⟩
  go_wp2_with fail
  go_ret
  exact ⟨rfl, (Below.refl _ _).alloc (Nat.le_refl _) _⟩
theorem count_0 {w : World} {g b cl : Nat} {c : Cf} {i t w0 o0 s0 p0 u0 f0 o e : Value} {hh th : Bool} (hg : w.heap[g]? = some (.cells (sx c i t w0 o0 s0 (.map (some b)) p0 u0 f0 o hh th e) 57 (0, 0))) (hm : w.heap[b]? = some (.map #[] cl)) (k : Int) :
    Calls Tryz.prog 25 #[pt g, .int .i64 k] w fun e w' => e = .returned (.int .i64 0) ∧ Below w.heap.size w w' := by
  have c1 : w.cell? ⟨g, 13, none⟩ = some (.map (some b)) := cell_blk hg rfl
  have hr := range0 (t := 52) Tryz.underlying52 hm
  have hn : ∀ ty, _ := fun ty => next0 (ty := ty) (alloc_is (w := w) (.mapIter (some b) cl #[] cl) rfl) (alloc_old _ hm)
  clear hg hm
  go_enter Tryz.func25, Tryz.ntmps25
  unfold pt
  go_wp2_with fail
  refine wp_loop_rounds 1 ?_
  rw [rounds_succ]
  go_wp2_with fail
  go_ret
  exact ⟨rfl, (Below.refl _ _).alloc (Nat.le_refl _) _⟩
theorem all_0 {w : World} {gt gm cl : Nat} {m : Int} (ht : w.heap[gt]? = some (.cells #[.int .i64 m, .map (some gm)] 120 (0, 0))) (hm : w.heap[gm]? = some (.map #[] cl)) :
    Calls Tryz.prog 23 #[pt gt] w fun e w' => ∃ a, e = .returned (.func (.func 48) #[] #[pt a, pt (a + 1)]) ∧ w.heap.size ≤ a ∧ w'.heap[a]? = some (.cells #[.slice none 0 0] 116 (0, 0)) ∧ w'.heap[a + 1]? = some (.cells #[.slice none 0 0] 118 (0, 0)) ∧ Below w.heap.size w w' := by
  have HI := Lib.hid (ids_0 ht hm)
  clear ht hm
  go_enter Tryz.func23, Tryz.ntmps23
  unfold pt
  go_wp2_with fail
  refine HI.out.mono ?_
  rintro e w1 ⟨rfl, hb⟩
  have HB := Lib.hid hb
  clear hb
  go_wp2_with fail
  refine wp_loop_rounds 1 ?_
  rw [rounds_succ]
  go_wp2_with fail
  go_ret
  exact ⟨w1.heap.size, rfl, HB.out.size, alloc_old _ (alloc_is _ rfl), alloc_is _ (by simp), (HB.out.alloc HB.out.size _).alloc (by have := HB.out.size; simp; omega) _⟩
end Go.Proofs.YtnpmafnhbbaokaaGreatDoor
