/-
  session.Check and Cap; the reference's.
-/
import Derived.Test.YtnpmafnhbbaokaaGreatDoorSNew
namespace Go.Proofs.YtnpmafnhbbaokaaGreatDoor
open Go Go.RowKit
set_option linter.unusedVariables false
set_option linter.unusedSimpArgs false
def fine (c : Cf) : Nat → Prop
  | 0 => 1 ≤ c.win ∧ c.win ≤ 2147483647
  | 1 => 1 ≤ c.stg ∧ c.stg ≤ 1048576
  | 2 => 1 ≤ c.frm ∧ c.frm ≤ 65536
  | 3 => 1 ≤ c.str ∧ c.str ≤ 4096
  | 4 => 1 ≤ c.bkl ∧ c.bkl ≤ 1024
  | 5 => 1 ≤ c.pgs ∧ c.pgs ≤ 1024
  | 6 => 1 ≤ c.out ∧ c.out ≤ 1048576
  | 7 => 0 ≤ c.skp ∧ c.skp ≤ 2147483647
  | _ => True
theorem fine_all {c : Cf} (h : ∀ j, j < 8 → fine c j) : CfOk c :=
  ⟨(h 0 (by omega)).1, (h 0 (by omega)).2, (h 1 (by omega)).1, (h 1 (by omega)).2, (h 2 (by omega)).1, (h 2 (by omega)).2, (h 3 (by omega)).1, (h 3 (by omega)).2, (h 4 (by omega)).1, (h 4 (by omega)).2, (h 5 (by omega)).1, (h 5 (by omega)).2, (h 6 (by omega)).1, (h 6 (by omega)).2, (h 7 (by omega)).1, (h 7 (by omega)).2⟩
theorem all_fine {c : Cf} (h : CfOk c) : ∀ j, j < 8 → fine c j := by
  intro j hj
  obtain rfl | rfl | rfl | rfl | rfl | rfl | rfl | rfl : j = 0 ∨ j = 1 ∨ j = 2 ∨ j = 3 ∨ j = 4 ∨ j = 5 ∨ j = 6 ∨ j = 7 := by omega
  · exact ⟨h.w1, h.w2⟩
  · exact ⟨h.s1, h.s2⟩
  · exact ⟨h.f1, h.f2⟩
  · exact ⟨h.t1, h.t2⟩
  · exact ⟨h.b1, h.b2⟩
  · exact ⟨h.p1, h.p2⟩
  · exact ⟨h.o1, h.o2⟩
  · exact ⟨h.k1, h.k2⟩
/-- What Check answers. -/
def ChkTo (sa : Nat → Addr) (c : Cf) (w : World) (e : Ending) (w' : World) : Prop :=
  ((CfOk c ∧ e = .returned .nilIface) ∨ (¬ CfOk c ∧ e = .returned (sv (sa 10)))) ∧ Below w.heap.size w w'
set_option maxRecDepth 100000 in
set_option maxHeartbeats 4000000 in
theorem scheck_any {sa : Nat → Addr} {w : World} (hG : Good w sa) (c : Cf) :
    Calls Tryz.prog 5 #[.agg (cfA c)] w (ChkTo sa c w) := by
  have HG := Lib.hid hG
  clear hG
  have hx0 : ∀ W, (Instr.index 44 (.agg #[.int .i64 c.win, .int .i64 1, .int .i64 2147483647, .int .i64 c.stg, .int .i64 1, .int .i64 1048576, .int .i64 c.frm, .int .i64 1, .int .i64 65536, .int .i64 c.str, .int .i64 1, .int .i64 4096, .int .i64 c.bkl, .int .i64 1, .int .i64 1024, .int .i64 c.pgs, .int .i64 1, .int .i64 1024, .int .i64 c.out, .int .i64 1, .int .i64 1048576, .int .i64 c.skp, .int .i64 0, .int .i64 2147483647]) (.int .i64 0)).run Tryz.prog W = .ok (.agg #[.int .i64 c.win, .int .i64 1, .int .i64 2147483647]) W := fun _ => by kernel_rfl
  have hx1 : ∀ W, (Instr.index 44 (.agg #[.int .i64 c.win, .int .i64 1, .int .i64 2147483647, .int .i64 c.stg, .int .i64 1, .int .i64 1048576, .int .i64 c.frm, .int .i64 1, .int .i64 65536, .int .i64 c.str, .int .i64 1, .int .i64 4096, .int .i64 c.bkl, .int .i64 1, .int .i64 1024, .int .i64 c.pgs, .int .i64 1, .int .i64 1024, .int .i64 c.out, .int .i64 1, .int .i64 1048576, .int .i64 c.skp, .int .i64 0, .int .i64 2147483647]) (.int .i64 1)).run Tryz.prog W = .ok (.agg #[.int .i64 c.stg, .int .i64 1, .int .i64 1048576]) W := fun _ => by kernel_rfl
  have hx2 : ∀ W, (Instr.index 44 (.agg #[.int .i64 c.win, .int .i64 1, .int .i64 2147483647, .int .i64 c.stg, .int .i64 1, .int .i64 1048576, .int .i64 c.frm, .int .i64 1, .int .i64 65536, .int .i64 c.str, .int .i64 1, .int .i64 4096, .int .i64 c.bkl, .int .i64 1, .int .i64 1024, .int .i64 c.pgs, .int .i64 1, .int .i64 1024, .int .i64 c.out, .int .i64 1, .int .i64 1048576, .int .i64 c.skp, .int .i64 0, .int .i64 2147483647]) (.int .i64 2)).run Tryz.prog W = .ok (.agg #[.int .i64 c.frm, .int .i64 1, .int .i64 65536]) W := fun _ => by kernel_rfl
  have hx3 : ∀ W, (Instr.index 44 (.agg #[.int .i64 c.win, .int .i64 1, .int .i64 2147483647, .int .i64 c.stg, .int .i64 1, .int .i64 1048576, .int .i64 c.frm, .int .i64 1, .int .i64 65536, .int .i64 c.str, .int .i64 1, .int .i64 4096, .int .i64 c.bkl, .int .i64 1, .int .i64 1024, .int .i64 c.pgs, .int .i64 1, .int .i64 1024, .int .i64 c.out, .int .i64 1, .int .i64 1048576, .int .i64 c.skp, .int .i64 0, .int .i64 2147483647]) (.int .i64 3)).run Tryz.prog W = .ok (.agg #[.int .i64 c.str, .int .i64 1, .int .i64 4096]) W := fun _ => by kernel_rfl
  have hx4 : ∀ W, (Instr.index 44 (.agg #[.int .i64 c.win, .int .i64 1, .int .i64 2147483647, .int .i64 c.stg, .int .i64 1, .int .i64 1048576, .int .i64 c.frm, .int .i64 1, .int .i64 65536, .int .i64 c.str, .int .i64 1, .int .i64 4096, .int .i64 c.bkl, .int .i64 1, .int .i64 1024, .int .i64 c.pgs, .int .i64 1, .int .i64 1024, .int .i64 c.out, .int .i64 1, .int .i64 1048576, .int .i64 c.skp, .int .i64 0, .int .i64 2147483647]) (.int .i64 4)).run Tryz.prog W = .ok (.agg #[.int .i64 c.bkl, .int .i64 1, .int .i64 1024]) W := fun _ => by kernel_rfl
  have hx5 : ∀ W, (Instr.index 44 (.agg #[.int .i64 c.win, .int .i64 1, .int .i64 2147483647, .int .i64 c.stg, .int .i64 1, .int .i64 1048576, .int .i64 c.frm, .int .i64 1, .int .i64 65536, .int .i64 c.str, .int .i64 1, .int .i64 4096, .int .i64 c.bkl, .int .i64 1, .int .i64 1024, .int .i64 c.pgs, .int .i64 1, .int .i64 1024, .int .i64 c.out, .int .i64 1, .int .i64 1048576, .int .i64 c.skp, .int .i64 0, .int .i64 2147483647]) (.int .i64 5)).run Tryz.prog W = .ok (.agg #[.int .i64 c.pgs, .int .i64 1, .int .i64 1024]) W := fun _ => by kernel_rfl
  have hx6 : ∀ W, (Instr.index 44 (.agg #[.int .i64 c.win, .int .i64 1, .int .i64 2147483647, .int .i64 c.stg, .int .i64 1, .int .i64 1048576, .int .i64 c.frm, .int .i64 1, .int .i64 65536, .int .i64 c.str, .int .i64 1, .int .i64 4096, .int .i64 c.bkl, .int .i64 1, .int .i64 1024, .int .i64 c.pgs, .int .i64 1, .int .i64 1024, .int .i64 c.out, .int .i64 1, .int .i64 1048576, .int .i64 c.skp, .int .i64 0, .int .i64 2147483647]) (.int .i64 6)).run Tryz.prog W = .ok (.agg #[.int .i64 c.out, .int .i64 1, .int .i64 1048576]) W := fun _ => by kernel_rfl
  have hx7 : ∀ W, (Instr.index 44 (.agg #[.int .i64 c.win, .int .i64 1, .int .i64 2147483647, .int .i64 c.stg, .int .i64 1, .int .i64 1048576, .int .i64 c.frm, .int .i64 1, .int .i64 65536, .int .i64 c.str, .int .i64 1, .int .i64 4096, .int .i64 c.bkl, .int .i64 1, .int .i64 1024, .int .i64 c.pgs, .int .i64 1, .int .i64 1024, .int .i64 c.out, .int .i64 1, .int .i64 1048576, .int .i64 c.skp, .int .i64 0, .int .i64 2147483647]) (.int .i64 7)).run Tryz.prog W = .ok (.agg #[.int .i64 c.skp, .int .i64 0, .int .i64 2147483647]) W := fun _ => by kernel_rfl
  go_enter Tryz.func5, Tryz.ntmps5
  unfold cfA
  go_wp2_with fail
  go_loopw [30] (fun i wi => ∃ k : Nat, i = .int .i64 k ∧ k ≤ 8 ∧ Hid (∀ j, j < k → fine c j) ∧ Hid (Below w.heap.size w wi)) (fun i _ => 8 - (intOf i).toNat)
  case atStart => exact ⟨0, rfl, by omega, Lib.hid (by intro j hj; omega), Lib.hid (by repeat (first | with_reducible exact Below.refl _ _ | with_reducible refine Below.alloc ?_ (by simp) _))⟩
  case round =>
    obtain ⟨k, rfl, hk, HF, HB⟩ := hrel
    rename World => wi
    have g10 : wi.cell? ⟨0, 0, none⟩ = some (sv (sa 10)) := ((HG.out.below HB.out).at_ 10 (by omega) (by omega)).glob
    have hlt := World.block_lt_of_cell? wi _ g10
    by_cases hk8 : k < 8
    · by_cases hfi : fine c k
      · have HF2 := Lib.hid (show ∀ j, j < k + 1 → fine c j from fun j hj => by
          rcases Nat.lt_succ_iff_lt_or_eq.1 hj with h | h
          · exact HF.out j h
          · rw [h]; exact hfi)
        obtain rfl | rfl | rfl | rfl | rfl | rfl | rfl | rfl : k = 0 ∨ k = 1 ∨ k = 2 ∨ k = 3 ∨ k = 4 ∨ k = 5 ∨ k = 6 ∨ k = 7 := by omega
        all_goals
          simp only [fine] at hfi
          obtain ⟨hf1, hf2⟩ := hfi
          go_wp2_with fail
          go_roundw
          case rel => exact ⟨_, by go_num, by omega, HF2, Lib.hid (HB.out.alloc HB.out.size _)⟩
          case measure => simp [intOf] <;> omega
      · have HN := Lib.hid (show ¬ CfOk c from fun h => hfi (all_fine h k hk8))
        obtain rfl | rfl | rfl | rfl | rfl | rfl | rfl | rfl : k = 0 ∨ k = 1 ∨ k = 2 ∨ k = 3 ∨ k = 4 ∨ k = 5 ∨ k = 6 ∨ k = 7 := by omega
        all_goals
          simp only [fine, Classical.not_and_iff_not_or_not] at hfi
          rcases hfi with hfi | hfi
        all_goals
          have hfi' := Int.not_le.1 hfi
          clear hfi
          go_wp2_with fail
          go_ret
          exact ⟨.inr ⟨HN.out, rfl⟩, HB.out.alloc HB.out.size _⟩
    · obtain rfl : k = 8 := by omega
      have HO := Lib.hid (fine_all HF.out)
      go_wp2_with fail
      go_ret
      exact ⟨.inl ⟨HO.out, rfl⟩, HB.out⟩
end Go.Proofs.YtnpmafnhbbaokaaGreatDoor
