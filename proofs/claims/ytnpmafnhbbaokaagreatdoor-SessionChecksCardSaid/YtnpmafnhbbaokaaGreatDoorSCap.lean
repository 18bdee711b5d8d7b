/-
  The reference's Check and Cap; session.Cap.
-/
import Derived.Test.YtnpmafnhbbaokaaGreatDoorSCheck
import Derived.Deep.Cut
import Derived.Deep.CutRange
namespace Go.Proofs.YtnpmafnhbbaokaaGreatDoor
open Go Go.RowKit
set_option linter.unusedVariables false
set_option linter.unusedSimpArgs false
def okA (c : Cf) : Prop := fine c 0 ∧ fine c 1 ∧ fine c 2
def okB (c : Cf) : Prop := fine c 3 ∧ fine c 4 ∧ fine c 5
def okC (c : Cf) : Prop := fine c 6 ∧ fine c 7
theorem ok_abc {c : Cf} : CfOk c ↔ okA c ∧ okB c ∧ okC c := ⟨fun h => ⟨⟨all_fine h 0 (by omega), all_fine h 1 (by omega), all_fine h 2 (by omega)⟩, ⟨all_fine h 3 (by omega), all_fine h 4 (by omega), all_fine h 5 (by omega)⟩, ⟨all_fine h 6 (by omega), all_fine h 7 (by omega)⟩⟩,
  fun ⟨⟨a0, a1, a2⟩, ⟨a3, a4, a5⟩, ⟨a6, a7⟩⟩ => fine_all fun j hj => by
    obtain rfl | rfl | rfl | rfl | rfl | rfl | rfl | rfl : j = 0 ∨ j = 1 ∨ j = 2 ∨ j = 3 ∨ j = 4 ∨ j = 5 ∨ j = 6 ∨ j = 7 := by omega
    all_goals assumption⟩
/-- What the reference's Check answers. -/
def RChk (c : Cf) (w : World) (e : Ending) (w' : World) : Prop := ∃ b : Bool, e = .returned (.bool b) ∧ (b = true ↔ CfOk c) ∧ Below w.heap.size w w'
set_option maxRecDepth 100000 in
set_option maxHeartbeats 4000000 in
theorem rcheck_any {w : World} (c : Cf) :
    Calls Tryz.prog 7 #[.agg (cfA c)] w (RChk c w) := by
  go_enter Tryz.func7, Tryz.ntmps7
  unfold cfA
  go_upto_region 1 with fail
  obtain ⟨w0, hw0⟩ : ∃ w0, w0 = w.alloc (.cells #[.int .i64 c.win, .int .i64 c.stg, .int .i64 c.frm, .int .i64 c.str, .int .i64 c.bkl, .int .i64 c.pgs, .int .i64 c.out, .int .i64 c.skp] 23) := ⟨_, rfl⟩
  rw [← hw0]
  have hb0 : Below w.heap.size w w0 := by rw [hw0]; exact (Below.refl _ _).alloc (Nat.le_refl _) _
  have hq0 : w0.heap[w.heap.size]? = some (.cells (cfA c) 23 (0, 0)) := by rw [hw0]; exact alloc_is _ rfl
  have c0 : w0.cell? ⟨w.heap.size, 0, none⟩ = some (.int .i64 c.win) := cell_blk hq0 rfl
  have c1 : w0.cell? ⟨w.heap.size, 1, none⟩ = some (.int .i64 c.stg) := cell_blk hq0 rfl
  have c2 : w0.cell? ⟨w.heap.size, 2, none⟩ = some (.int .i64 c.frm) := cell_blk hq0 rfl
  have c3 : w0.cell? ⟨w.heap.size, 3, none⟩ = some (.int .i64 c.str) := cell_blk hq0 rfl
  have c4 : w0.cell? ⟨w.heap.size, 4, none⟩ = some (.int .i64 c.bkl) := cell_blk hq0 rfl
  have c5 : w0.cell? ⟨w.heap.size, 5, none⟩ = some (.int .i64 c.pgs) := cell_blk hq0 rfl
  have c6 : w0.cell? ⟨w.heap.size, 6, none⟩ = some (.int .i64 c.out) := cell_blk hq0 rfl
  have c7 : w0.cell? ⟨w.heap.size, 7, none⟩ = some (.int .i64 c.skp) := cell_blk hq0 rfl
  have HB0 := Lib.hid hb0
  clear hw0 hb0 hq0
  go_cut [3] from 5 to 32 (fun s3 wx => ∃ b : Bool, s3 = .bool b ∧ (b = true ↔ okA c) ∧ wx = w0)
  case first =>
    by_cases h0 : 1 ≤ c.win
    case neg =>
      have hn := Int.not_le.1 h0
      have hd : decide (1 ≤ c.win) = false := decide_eq_false h0
      clear h0
      go_wp2_with fail
      go_meet
      exact ⟨false, rfl, iff_of_false (by decide) (fun h => by obtain ⟨⟨_, _⟩, ⟨_, _⟩, ⟨_, _⟩⟩ := h; omega), rfl⟩
    by_cases h1 : c.win ≤ 2147483647
    case neg =>
      have hn := Int.not_le.1 h1
      have hd : decide (c.win ≤ 2147483647) = false := decide_eq_false h1
      clear h1
      go_wp2_with fail
      go_meet
      exact ⟨false, rfl, iff_of_false (by decide) (fun h => by obtain ⟨⟨_, _⟩, ⟨_, _⟩, ⟨_, _⟩⟩ := h; omega), rfl⟩
    by_cases h2 : 1 ≤ c.stg
    case neg =>
      have hn := Int.not_le.1 h2
      have hd : decide (1 ≤ c.stg) = false := decide_eq_false h2
      clear h2
      go_wp2_with fail
      go_meet
      exact ⟨false, rfl, iff_of_false (by decide) (fun h => by obtain ⟨⟨_, _⟩, ⟨_, _⟩, ⟨_, _⟩⟩ := h; omega), rfl⟩
    by_cases h3 : c.stg ≤ 1048576
    case neg =>
      have hn := Int.not_le.1 h3
      have hd : decide (c.stg ≤ 1048576) = false := decide_eq_false h3
      clear h3
      go_wp2_with fail
      go_meet
      exact ⟨false, rfl, iff_of_false (by decide) (fun h => by obtain ⟨⟨_, _⟩, ⟨_, _⟩, ⟨_, _⟩⟩ := h; omega), rfl⟩
    by_cases h4 : 1 ≤ c.frm
    case neg =>
      have hn := Int.not_le.1 h4
      have hd : decide (1 ≤ c.frm) = false := decide_eq_false h4
      clear h4
      go_wp2_with fail
      go_meet
      exact ⟨false, rfl, iff_of_false (by decide) (fun h => by obtain ⟨⟨_, _⟩, ⟨_, _⟩, ⟨_, _⟩⟩ := h; omega), rfl⟩
    by_cases h5 : c.frm ≤ 65536
    case neg =>
      have hn := Int.not_le.1 h5
      have hd : decide (c.frm ≤ 65536) = false := decide_eq_false h5
      clear h5
      go_wp2_with fail
      go_meet
      exact ⟨false, rfl, iff_of_false (by decide) (fun h => by obtain ⟨⟨_, _⟩, ⟨_, _⟩, ⟨_, _⟩⟩ := h; omega), rfl⟩
    go_wp2_with fail
    go_meet
    exact ⟨true, rfl, iff_of_true rfl ⟨⟨h0, h1⟩, ⟨h2, h3⟩, ⟨h4, h5⟩⟩, rfl⟩
  case rest =>
    obtain ⟨bA, rfl, hA, rfl⟩ := hcut
    have HA := Lib.hid hA
    clear hA
    go_upto_region 2 with fail
    go_cut [4] from 33 to 60 (fun s4 wx => ∃ b : Bool, s4 = .bool b ∧ (b = true ↔ okB c) ∧ wx = wc)
    case first =>
      by_cases h0 : 1 ≤ c.str
      case neg =>
        have hn := Int.not_le.1 h0
        have hd : decide (1 ≤ c.str) = false := decide_eq_false h0
        clear h0
        go_wp2_with fail
        go_meet
        exact ⟨false, rfl, iff_of_false (by decide) (fun h => by obtain ⟨⟨_, _⟩, ⟨_, _⟩, ⟨_, _⟩⟩ := h; omega), rfl⟩
      by_cases h1 : c.str ≤ 4096
      case neg =>
        have hn := Int.not_le.1 h1
        have hd : decide (c.str ≤ 4096) = false := decide_eq_false h1
        clear h1
        go_wp2_with fail
        go_meet
        exact ⟨false, rfl, iff_of_false (by decide) (fun h => by obtain ⟨⟨_, _⟩, ⟨_, _⟩, ⟨_, _⟩⟩ := h; omega), rfl⟩
      by_cases h2 : 1 ≤ c.bkl
      case neg =>
        have hn := Int.not_le.1 h2
        have hd : decide (1 ≤ c.bkl) = false := decide_eq_false h2
        clear h2
        go_wp2_with fail
        go_meet
        exact ⟨false, rfl, iff_of_false (by decide) (fun h => by obtain ⟨⟨_, _⟩, ⟨_, _⟩, ⟨_, _⟩⟩ := h; omega), rfl⟩
      by_cases h3 : c.bkl ≤ 1024
      case neg =>
        have hn := Int.not_le.1 h3
        have hd : decide (c.bkl ≤ 1024) = false := decide_eq_false h3
        clear h3
        go_wp2_with fail
        go_meet
        exact ⟨false, rfl, iff_of_false (by decide) (fun h => by obtain ⟨⟨_, _⟩, ⟨_, _⟩, ⟨_, _⟩⟩ := h; omega), rfl⟩
      by_cases h4 : 1 ≤ c.pgs
      case neg =>
        have hn := Int.not_le.1 h4
        have hd : decide (1 ≤ c.pgs) = false := decide_eq_false h4
        clear h4
        go_wp2_with fail
        go_meet
        exact ⟨false, rfl, iff_of_false (by decide) (fun h => by obtain ⟨⟨_, _⟩, ⟨_, _⟩, ⟨_, _⟩⟩ := h; omega), rfl⟩
      by_cases h5 : c.pgs ≤ 1024
      case neg =>
        have hn := Int.not_le.1 h5
        have hd : decide (c.pgs ≤ 1024) = false := decide_eq_false h5
        clear h5
        go_wp2_with fail
        go_meet
        exact ⟨false, rfl, iff_of_false (by decide) (fun h => by obtain ⟨⟨_, _⟩, ⟨_, _⟩, ⟨_, _⟩⟩ := h; omega), rfl⟩
      go_wp2_with fail
      go_meet
      exact ⟨true, rfl, iff_of_true rfl ⟨⟨h0, h1⟩, ⟨h2, h3⟩, ⟨h4, h5⟩⟩, rfl⟩
    case rest =>
      obtain ⟨bB, rfl, hB, rfl⟩ := hcut
      have hA := HA.out
      have HBB := Lib.hid hB
      have HAA := Lib.hid hA
      cases bA
      · clear hA hB
        go_wp2_with fail
        go_ret
        exact ⟨false, rfl, iff_of_false (by decide) (fun h => by have := HAA.out.2 (ok_abc.1 h).1; cases this), HB0.out⟩
      cases bB
      · clear hA hB
        go_wp2_with fail
        go_ret
        exact ⟨false, rfl, iff_of_false (by decide) (fun h => by have := HBB.out.2 (ok_abc.1 h).2.1; cases this), HB0.out⟩
      clear hA hB
      by_cases h0 : 1 ≤ c.out
      case neg =>
        have hn := Int.not_le.1 h0
        have hd : decide (1 ≤ c.out) = false := decide_eq_false h0
        clear h0
        go_wp2_with fail
        go_ret
        exact ⟨false, rfl, iff_of_false (by decide) (fun h => by obtain ⟨_, _, ⟨_, _⟩, ⟨_, _⟩⟩ := ok_abc.1 h; omega), HB0.out⟩
      by_cases h1 : c.out ≤ 1048576
      case neg =>
        have hn := Int.not_le.1 h1
        have hd : decide (c.out ≤ 1048576) = false := decide_eq_false h1
        clear h1
        go_wp2_with fail
        go_ret
        exact ⟨false, rfl, iff_of_false (by decide) (fun h => by obtain ⟨_, _, ⟨_, _⟩, ⟨_, _⟩⟩ := ok_abc.1 h; omega), HB0.out⟩
      by_cases h2 : 0 ≤ c.skp
      case neg =>
        have hn := Int.not_le.1 h2
        have hd : decide (0 ≤ c.skp) = false := decide_eq_false h2
        clear h2
        go_wp2_with fail
        go_ret
        exact ⟨false, rfl, iff_of_false (by decide) (fun h => by obtain ⟨_, _, ⟨_, _⟩, ⟨_, _⟩⟩ := ok_abc.1 h; omega), HB0.out⟩
      by_cases h3 : c.skp ≤ 2147483647
      case neg =>
        have hn := Int.not_le.1 h3
        have hd : decide (c.skp ≤ 2147483647) = false := decide_eq_false h3
        clear h3
        go_wp2_with fail
        go_ret
        exact ⟨false, rfl, iff_of_false (by decide) (fun h => by obtain ⟨_, _, ⟨_, _⟩, ⟨_, _⟩⟩ := ok_abc.1 h; omega), HB0.out⟩
      go_wp2_with fail
      go_ret
      exact ⟨true, rfl, iff_of_true rfl (ok_abc.2 ⟨HAA.out.1 (by first | exact rfl | trivial), HBB.out.1 (by first | exact rfl | trivial), ⟨h0, h1⟩, ⟨h2, h3⟩⟩), HB0.out⟩
end Go.Proofs.YtnpmafnhbbaokaaGreatDoor
