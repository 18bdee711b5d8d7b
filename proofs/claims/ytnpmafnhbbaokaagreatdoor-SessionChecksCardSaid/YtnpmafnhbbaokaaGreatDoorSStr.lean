/-
  stream.New of an own stream; ids.Next; session.over.
-/
import Derived.Test.YtnpmafnhbbaokaaGreatDoorSEmp
namespace Go.Proofs.YtnpmafnhbbaokaaGreatDoor
open Go Go.RowKit
set_option linter.unusedVariables false
set_option linter.unusedSimpArgs false
/-- A stream's cells. -/
def stc (id : Int) (mine acc : Bool) (frm st : Int) (staged : Nat) (closing lastOut : Bool) (send unread : Nat) (lastIn told : Bool) (recv : Nat) (reset cut : Bool) : Array Value :=
  #[.int .u32 id, .bool mine, .bool acc, .int .i64 frm, .int .i64 st, pt staged, .bool closing, .bool lastOut, pt send, pt unread, .bool lastIn, .bool told, pt recv, .bool reset, .bool cut]
/-- Where an opened stream stands: states.table's first row. -/
def Stt (w : World) : Prop := w.cell? ⟨45, 0, none⟩ = some (.int .i64 1)
theorem known_0 {w : World} : Calls Tryz.prog 110 #[.int .i64 0] w fun e w' => e = .returned (.bool true) ∧ w' = w := by
  go_enter Tryz.func110, Tryz.ntmps110
  go_wp2_with fail
  go_ret
  exact ⟨rfl, rfl⟩
theorem next_00 {w : World} (hS : Stt w) : Calls Tryz.prog 83 #[.int .i64 0, .int .i64 0] w fun e w' => e = .returned (.tuple #[.int .i64 1, .nilIface]) ∧ w' = w := by
  unfold Stt at hS
  go_enter Tryz.func83, Tryz.ntmps83
  go_wp2_with fail
  refine known_0.mono ?_
  rintro e w1 ⟨rfl, rfl⟩
  go_wp2_with fail
  go_ret2
  exact ⟨rfl, rfl⟩
theorem happen_open {w : World} (hS : Stt w) {s : Nat} {id frm : Int} {mine acc : Bool} {a b d f : Nat} (hs : w.heap[s]? = some (.cells (stc id mine acc frm 0 a false false b d false false f false false) 126 (0, 0))) :
    Calls Tryz.prog 56 #[pt s, .int .i64 0] w fun e w' => e = .returned (.tuple #[]) ∧ w' = w.setCell ⟨s, 4, none⟩ (.int .i64 1) := by
  have c4 : w.cell? ⟨s, 4, none⟩ = some (.int .i64 0) := cell_blk hs rfl
  have hf : ∀ j, w.frozen? ⟨s, j, none⟩ = false := fun j => free_blk hs
  have HN := Lib.hid (next_00 hS)
  clear hs hS
  go_enter Tryz.func56, Tryz.ntmps56
  unfold pt
  go_wp2_with fail
  refine HN.out.mono ?_
  rintro e w1 ⟨rfl, rfl⟩
  go_wp2_with fail
  go_end0
  exact ⟨rfl, rfl⟩
set_option maxRecDepth 100000 in
set_option maxHeartbeats 1000000 in
theorem stream_new {w : World} {c : Cf} (hc : CfOk c) (hS : Stt w) (id : Int) (h1 : 1 ≤ id) :
    Calls Tryz.prog 27 #[.int .u32 id, .agg (cfA c), .bool true] w fun e w' => e = .returned (.tuple #[pt (w.heap.size + 3), .nilIface]) ∧ Below w.heap.size w w' ∧ w'.heap.size = w.heap.size + 6 ∧
      w'.heap[w.heap.size + 1]? = some (.cells #[.int .u32 c.win, .int .u32 c.win, .int .u64 0] 190 (0, 0)) ∧ w'.heap[w.heap.size + 2]? = some (.cells #[.int .i64 c.win, .int .i64 0, .int .i64 0, .int .i64 c.win] 194 (0, 0)) ∧
      w'.heap[w.heap.size + 3]? = some (.cells (stc id true false c.frm 1 (w.heap.size + 4) false false (w.heap.size + 1) (w.heap.size + 5) false false (w.heap.size + 2) false false) 126 (0, 0)) ∧
      w'.heap[w.heap.size + 4]? = some (.cells #[.int .i64 c.stg, .slice none 0 0, .int .i64 0, .int .i64 0] 188 (0, 0)) ∧ w'.heap[w.heap.size + 5]? = some (.cells #[.int .i64 c.win, .slice none 0 0, .int .i64 0, .int .i64 0] 188 (0, 0)) := by
  obtain ⟨a1, a2, s1, s2, f1, f2, _, _, _, _, _, _, _, _, _, _⟩ := hc
  have hne : (id == 0) = false := by simp; omega
  have HS := Lib.hid hS
  clear hS
  go_enter Tryz.func27, Tryz.ntmps27
  unfold cfA
  go_wp2_with fail
  refine (credit_new _ a1 a2).mono ?_
  rintro e1 w1 ⟨rfl, rfl⟩
  unfold pt
  go_wp2_with fail
  refine (grant_new _ a1 a2).mono ?_
  rintro e1 w1 ⟨rfl, rfl⟩
  unfold pt
  go_wp2_with fail
  refine (ring_new _ (by omega) (by omega)).mono ?_
  rintro e1 w1 ⟨rfl, rfl⟩
  unfold pt
  go_wp2_with fail
  refine (ring_new _ (by omega) (by omega)).mono ?_
  rintro e1 w1 ⟨rfl, rfl⟩
  unfold pt
  go_wp2_with fail
  obtain ⟨W, hW⟩ : ∃ W, W = (((((w.alloc (.cells #[.int .i64 c.win, .int .i64 c.stg, .int .i64 c.frm, .int .i64 c.str, .int .i64 c.bkl, .int .i64 c.pgs, .int .i64 c.out, .int .i64 c.skp] 23)).alloc (.cells #[.int .u32 c.win, .int .u32 c.win, .int .u64 0] 190)).alloc (.cells #[.int .i64 c.win, .int .i64 0, .int .i64 0, .int .i64 c.win] 194)).alloc (.cells #[.int .u32 id, .bool true, .bool false, .int .i64 c.frm, .int .i64 0, .pointer (some ⟨w.heap.size + 1 + 1 + 1 + 1, 0, none⟩), .bool false, .bool false, .pointer (some ⟨w.heap.size + 1, 0, none⟩), .pointer (some ⟨w.heap.size + 1 + 1 + 1 + 1 + 1, 0, none⟩), .bool false, .bool false, .pointer (some ⟨w.heap.size + 1 + 1, 0, none⟩), .bool false, .bool false] 126)).alloc (.cells #[.int .i64 c.stg, .slice none 0 0, .int .i64 0, .int .i64 0] 188)).alloc (.cells #[.int .i64 c.win, .slice none 0 0, .int .i64 0, .int .i64 0] 188) := ⟨_, rfl⟩
  rw [← hW]
  have hz : W.heap.size = w.heap.size + 6 := by rw [hW]; simp
  have hb : Below w.heap.size w W := by rw [hW]; exact ((((((Below.refl _ _).alloc (Nat.le_refl _) _).alloc (by simp) _).alloc (by simp; omega) _).alloc (by simp; omega) _).alloc (by simp; omega) _).alloc (by simp; omega) _
  have k5 : W.heap[w.heap.size + 5]? = some (.cells #[.int .i64 c.win, .slice none 0 0, .int .i64 0, .int .i64 0] 188 (0, 0)) := by rw [hW]; exact alloc_is _ (by simp)
  have k4 : W.heap[w.heap.size + 4]? = some (.cells #[.int .i64 c.stg, .slice none 0 0, .int .i64 0, .int .i64 0] 188 (0, 0)) := by rw [hW]; exact alloc_old _ (alloc_is _ (by simp))
  have k3 : W.heap[w.heap.size + 3]? = some (.cells (stc id true false c.frm 0 (w.heap.size + 4) false false (w.heap.size + 1) (w.heap.size + 5) false false (w.heap.size + 2) false false) 126 (0, 0)) := by rw [hW]; exact alloc_old _ (alloc_old _ (alloc_is _ (by simp)))
  have k2 : W.heap[w.heap.size + 2]? = some (.cells #[.int .i64 c.win, .int .i64 0, .int .i64 0, .int .i64 c.win] 194 (0, 0)) := by rw [hW]; exact alloc_old _ (alloc_old _ (alloc_old _ (alloc_is _ (by simp))))
  have k1 : W.heap[w.heap.size + 1]? = some (.cells #[.int .u32 c.win, .int .u32 c.win, .int .u64 0] 190 (0, 0)) := by rw [hW]; exact alloc_old _ (alloc_old _ (alloc_old _ (alloc_old _ (alloc_is _ (by simp)))))
  have HH := Lib.hid (happen_open (w := W) (keepA hb HS.out) k3)
  have K := Lib.hid (And.intro hz (And.intro hb (And.intro k1 (And.intro k2 (And.intro k3 (And.intro k4 k5))))))
  clear hz hb k1 k2 k3 k4 k5 hW
  refine HH.out.mono ?_
  rintro e9 w9 ⟨rfl, rfl⟩
  go_wp2_with fail
  go_ret2
  obtain ⟨hz, hb, k1, k2, k3, k4, k5⟩ := K.out
  exact ⟨rfl, hb.setCell (by simp) _, by simpa using hz, setO _ k1 (by omega), setO _ k2 (by omega), set_is k3 rfl, setO _ k4 (by omega), setO _ k5 (by omega)⟩
theorem ids_next {w : World} {gi : Nat} {a b f nx : Int} {mk th : Value} (hi : w.heap[gi]? = some (.cells #[.int .u64 a, .int .u64 b, .int .u64 f, .int .u64 nx, mk, th] 109 (0, 0))) (h0 : 0 ≤ nx) (h1 : nx ≤ b) (h2 : nx ≤ 4294967295) :
    Calls Tryz.prog 26 #[pt gi] w fun e w' => e = .returned (.tuple #[.int .u32 nx, .nilIface]) ∧ Ch [gi] w w' ∧ w'.heap[gi]? = some (.cells #[.int .u64 a, .int .u64 b, .int .u64 f, .int .u64 (nx + 2), mk, th] 109 (0, 0)) := by
  have c1 : w.cell? ⟨gi, 1, none⟩ = some (.int .u64 b) := cell_blk hi rfl
  have c3 : w.cell? ⟨gi, 3, none⟩ = some (.int .u64 nx) := cell_blk hi rfl
  have hf : ∀ j, w.frozen? ⟨gi, j, none⟩ = false := fun j => free_blk hi
  have hw : IntKind.u64.wrap (nx + 2) = nx + 2 := by rw [IntKind.wrap_u64]; omega
  have hw2 : IntKind.u64.wrap (nx + 2 - 2) = nx := by rw [IntKind.wrap_u64]; omega
  have hw3 : IntKind.u32.wrap nx = nx := by rw [IntKind.wrap_u32]; omega
  have hd : decide (b < nx) = false := by simp; omega
  have HI := Lib.hid hi
  clear hi
  go_enter Tryz.func26, Tryz.ntmps26
  unfold pt
  go_wp2_with fail
  go_quiet (fail)
  go_wp2_with fail
  go_ret2
  refine ⟨rfl, ?_, ?_⟩
  · first | exact ((Ch.refl _ _).set (.inl (by simp)) _).drewN _ | exact ((Ch.refl _ _).drewN _).set (.inl (by simp)) _
  · exact set_is (w := w) HI.out rfl
theorem over_nil {w : World} {g : Nat} {c : Cf} {i t w0 o0 s0 r0 p0 u0 f0 o : Value} {hh th : Bool} (hg : w.heap[g]? = some (.cells (sx c i t w0 o0 s0 r0 p0 u0 f0 o hh th .nilIface) 57 (0, 0))) :
    Calls Tryz.prog 22 #[pt g] w fun e w' => e = .returned .nilIface ∧ w' = w := by
  have c20 : w.cell? ⟨g, 20, none⟩ = some .nilIface := cell_blk hg rfl
  clear hg
  go_enter Tryz.func22, Tryz.ntmps22
  unfold pt
  go_wp2_with fail
  go_ret
  exact ⟨rfl, rfl⟩
end Go.Proofs.YtnpmafnhbbaokaaGreatDoor
