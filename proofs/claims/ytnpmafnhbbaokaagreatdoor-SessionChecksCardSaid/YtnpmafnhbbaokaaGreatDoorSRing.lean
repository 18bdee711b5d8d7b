/-
  ring.Push of the document's five bytes into an empty ring of 8.
-/
import Derived.Test.YtnpmafnhbbaokaaGreatDoorSOpen
import Derived.Laws.CopyRow
import Derived.Laws.IdiomCopy
import Derived.BigRegion
namespace Go.Proofs.YtnpmafnhbbaokaaGreatDoor
open Go Go.RowKit
open Go.ChangeMaps (setBlock)
set_option linter.unusedVariables false
set_option linter.unusedSimpArgs false
theorem setRow_is {w : World} {g : Nat} {cs cs' : Array Value} {t : TypeId} {fz : Nat × Nat} (h : w.heap[g]? = some (.cells cs t fz)) : (w.setRow g cs').heap[g]? = some (.cells cs' t fz) := by simp [World.setRow, Array.getElem?_modify, h]
theorem Ch.row {L : List Nat} {w w1 : World} {b : Nat} (h : Ch L w w1) (hb : b ∈ L ∨ w.heap.size ≤ b) (cs : Array Value) : Ch L w (w1.setRow b cs) :=
  ⟨h.os, h.tape, h.output, by have := h.size; simpa [World.setRow] using this, fun k hk hn => by
    have hne : b ≠ k := fun e => hb.elim (fun h' => hn (e ▸ h')) (fun h' => by omega)
    rw [← h.block k hk hn]
    simp [World.setRow, Array.getElem?_modify, hne]⟩
theorem u8_sz : (Tryz.prog.info? 5).map (·.size) = some 1 := by kernel_rfl
theorem rlen_any {w : World} {q : Nat} {k n : Int} {v h : Value} (hq : w.heap[q]? = some (.cells #[.int .i64 k, v, h, .int .i64 n] 188 (0, 0))) :
    Calls Tryz.prog 49 #[pt q] w fun e w' => e = .returned (.int .i64 n) ∧ w' = w := by
  have c3 : w.cell? ⟨q, 3, none⟩ = some (.int .i64 n) := cell_blk hq rfl
  clear hq
  go_enter Tryz.func49, Tryz.ntmps49
  unfold pt
  go_wp2_with fail
  go_ret
  exact ⟨rfl, rfl⟩
theorem rcap_any {w : World} {q : Nat} {k n : Int} {v h : Value} (hq : w.heap[q]? = some (.cells #[.int .i64 k, v, h, .int .i64 n] 188 (0, 0))) :
    Calls Tryz.prog 113 #[pt q] w fun e w' => e = .returned (.int .i64 k) ∧ w' = w := by
  have c3 : w.cell? ⟨q, 0, none⟩ = some (.int .i64 k) := cell_blk hq rfl
  clear hq
  go_enter Tryz.func113, Tryz.ntmps113
  unfold pt
  go_wp2_with fail
  go_ret
  exact ⟨rfl, rfl⟩
theorem rfree_any {w : World} {q : Nat} {k n : Int} {v h : Value} (hq : w.heap[q]? = some (.cells #[.int .i64 k, v, h, .int .i64 n] 188 (0, 0))) (h0 : 0 ≤ n) (h1 : n ≤ k) (h2 : k ≤ 2147483647) :
    Calls Tryz.prog 86 #[pt q] w fun e w' => e = .returned (.int .i64 (k - n)) ∧ w' = w := by
  have H1 := Lib.hid (rcap_any hq)
  have H2 := Lib.hid (rlen_any hq)
  clear hq
  go_enter Tryz.func86, Tryz.ntmps86
  unfold pt
  go_wp2_with fail
  refine H1.out.mono ?_
  rintro e w ⟨rfl, rfl⟩
  go_wp2_with fail
  refine H2.out.mono ?_
  rintro e w ⟨rfl, rfl⟩
  go_wp2_with fail
  go_ret
  exact ⟨rfl, rfl⟩
theorem copyTo_0 {w : World} {x : Value} {c : Nat} (A : Option Addr) (i : Value) : Calls Tryz.prog 114 #[x, .slice A 0 c, i] w fun e w' => e = .returned (.tuple #[]) ∧ w' = w := by
  go_enter Tryz.func114, Tryz.ntmps114
  go_wp2_with fail
  refine bodyPost_ret (results_none rfl _ _ _) rfl ?_
  exact ⟨rfl, rfl⟩
def z8 : Array Value := #[.int .u8 0, .int .u8 0, .int .u8 0, .int .u8 0, .int .u8 0, .int .u8 0, .int .u8 0, .int .u8 0]
def abcde : Array Value := #[.int .u8 97, .int .u8 98, .int .u8 99, .int .u8 100, .int .u8 101]
def ab8 : Array Value := #[.int .u8 97, .int .u8 98, .int .u8 99, .int .u8 100, .int .u8 101, .int .u8 0, .int .u8 0, .int .u8 0]
set_option maxRecDepth 100000 in
set_option maxHeartbeats 1000000 in
theorem lay_8 {w : World} {q : Nat} (hq : w.heap[q]? = some (.cells #[.int .i64 8, .slice none 0 0, .int .i64 0, .int .i64 0] 188 (0, 0))) :
    Calls Tryz.prog 87 #[pt q, .int .i64 5] w fun e w' => e = .returned (.tuple #[]) ∧ Ch [q] w w' ∧ ∃ b, w.heap.size ≤ b ∧ w'.heap[q]? = some (.cells #[.int .i64 8, .slice (some ⟨b, 0, none⟩) 8 8, .int .i64 0, .int .i64 0] 188 (0, 0)) ∧ w'.heap[b]? = some (.cells z8 5 (0, 0)) := by
  have c0 : w.cell? ⟨q, 0, none⟩ = some (.int .i64 8) := cell_blk hq rfl
  have c1 : w.cell? ⟨q, 1, none⟩ = some (.slice none 0 0) := cell_blk hq rfl
  have c2 : w.cell? ⟨q, 2, none⟩ = some (.int .i64 0) := cell_blk hq rfl
  have c3 : w.cell? ⟨q, 3, none⟩ = some (.int .i64 0) := cell_blk hq rfl
  have hf : ∀ j, w.frozen? ⟨q, j, none⟩ = false := fun j => free_blk hq
  have hlt : q < w.heap.size := blk_lt hq
  have hmk : ∀ W : World, (Instr.makeSlice 40 (.int .i64 8) (.int .i64 8)).run Tryz.prog W = .ok (.slice (some ⟨W.heap.size, 0, none⟩) 8 8) (W.alloc (.cells #[.int .u8 0, .int .u8 0, .int .u8 0, .int .u8 0, .int .u8 0, .int .u8 0, .int .u8 0, .int .u8 0] 5)) := fun _ => by kernel_rfl
  have hmx : ∀ W, (Builtin.max_ #[3, 3, 3] 3 #[.int .i64 5, .int .i64 0, .int .i64 16]).run Tryz.prog W = .ok (.int .i64 16) W := fun _ => by kernel_rfl
  have hmn : ∀ W, (Builtin.min_ #[3, 3] 3 #[.int .i64 8, .int .i64 16]).run Tryz.prog W = .ok (.int .i64 8) W := fun _ => by kernel_rfl
  have HQ := Lib.hid hq
  clear hq
  go_enter Tryz.func87, Tryz.ntmps87
  unfold pt
  go_wp2_with fail
  go_region
  go_wp2_with fail
  refine (copyTo_0 _ _).mono ?_
  rintro e w1 ⟨rfl, rfl⟩
  go_wp2_with fail
  go_end0
  refine ⟨rfl, ?_, w.heap.size, Nat.le_refl _, ?_, ?_⟩
  · first | exact (((Ch.refl _ _).drew.alloc _).set (.inl (by simp)) _).set (.inl (by simp)) _ | exact ((((Ch.refl _ _).set (.inl (by simp)) _).set (.inl (by simp)) _).alloc _).drew | exact ((((Ch.refl _ _).set (.inl (by simp)) _).set (.inl (by simp)) _).drew.alloc _)
  · exact drew_blk (alloc_old _ (set_is (set_blk _ HQ.out) rfl))
  · exact drew_blk (alloc_is _ (by simp))
set_option maxRecDepth 100000 in
set_option maxHeartbeats 1000000 in
theorem push_5 {w : World} {q p : Nat} {fz : Nat × Nat} (hq : w.heap[q]? = some (.cells #[.int .i64 8, .slice none 0 0, .int .i64 0, .int .i64 0] 188 (0, 0))) (hp : w.heap[p]? = some (.cells abcde 5 fz)) (hpq : p ≠ q) :
    Calls Tryz.prog 60 #[pt q, .slice (some ⟨p, 0, none⟩) 5 5] w fun e w' => e = .returned (.int .i64 5) ∧ Ch [q] w w' ∧ ∃ b, w.heap.size ≤ b ∧ w'.heap[q]? = some (.cells #[.int .i64 8, .slice (some ⟨b, 0, none⟩) 8 8, .int .i64 0, .int .i64 5] 188 (0, 0)) ∧ w'.heap[b]? = some (.cells ab8 5 (0, 0)) := by
  have c3 : w.cell? ⟨q, 3, none⟩ = some (.int .i64 0) := cell_blk hq rfl
  have hmn : ∀ W, (Builtin.min_ #[3, 3] 3 #[.int .i64 5, .int .i64 8]).run Tryz.prog W = .ok (.int .i64 5) W := fun _ => by kernel_rfl
  have HR := Lib.hid (rfree_any hq (by decide) (by decide) (by decide))
  have HY := Lib.hid (lay_8 hq)
  have HP := Lib.hid hp
  have hplt : p < w.heap.size := blk_lt hp
  have hqlt : q < w.heap.size := blk_lt hq
  clear hq hp
  go_enter Tryz.func60, Tryz.ntmps60
  unfold pt at HY
  unfold pt
  go_wp2_with fail
  refine HR.out.mono ?_
  rintro e w ⟨rfl, rfl⟩
  go_wp2_with fail
  refine HY.out.mono ?_
  rintro e w1 ⟨rfl, hc1, b, hb, hq1, hb1⟩
  have c0 : w1.cell? ⟨q, 0, none⟩ = some (.int .i64 8) := cell_blk hq1 rfl
  have c1 : w1.cell? ⟨q, 1, none⟩ = some (.slice (some ⟨b, 0, none⟩) 8 8) := cell_blk hq1 rfl
  have c2 : w1.cell? ⟨q, 2, none⟩ = some (.int .i64 0) := cell_blk hq1 rfl
  have c3' : w1.cell? ⟨q, 3, none⟩ = some (.int .i64 0) := cell_blk hq1 rfl
  have hf : ∀ j, w1.frozen? ⟨q, j, none⟩ = false := fun j => free_blk hq1
  have hp1 := hc1.at_ HP.out (by simp; omega)
  have K1 := Lib.hid (And.intro hc1 (And.intro hb (And.intro hq1 (And.intro hb1 hp1))))
  clear hc1 hq1 hb1 hp1 c3
  go_wp2_with fail
  have z0 : IntKind.i64.wrap (0 + 0) = 0 := by rw [IntKind.wrap_i64]; omega
  have z1 : IntKind.i64.wrap 0 = 0 := by rw [IntKind.wrap_i64]; omega
  go_region
  obtain ⟨w2, hw2⟩ : ∃ w2, w2 = w1.drew := ⟨_, rfl⟩
  rw [← hw2]
  have hw2' : w2.heap = w1.heap := by rw [hw2]; rfl
  have hc2 : Ch [] w1 w2 := by rw [hw2]; exact (Ch.refl _ _).drew
  have c1' : w2.cell? ⟨q, 1, none⟩ = some (.slice (some ⟨b, 0, none⟩) 8 8) := by rw [hw2]; exact c1
  obtain ⟨hc1, hb, hq1, hb1, hp1⟩ := K1.out
  have hb2 := hc2.at_ hb1 (by simp)
  have hp2 := hc2.at_ hp1 (by simp)
  have hcp : (Builtin.copy_ #[40, 40] 3 #[.slice (some ⟨b, 0, none⟩) 8 8, .slice (some ⟨p, 0, none⟩) 5 5]).run Tryz.prog w2.drew = .ok (.int .i64 5) (w2.drew.setRow b ab8) := run_copy_row (P := Tryz.prog) w2.drew 40 40 3 5 b 0 8 8 ⟨p, 0, none⟩ 5 5 z8 5 abcde.toList Tryz.underlying40 u8_sz hb2 rfl (by
    intro j v hv
    match j, hv with
    | 0, hv => exact cell_blk (w := w2) hp2 (by simpa [abcde] using hv)
    | 1, hv => exact cell_blk (w := w2) hp2 (by simpa [abcde] using hv)
    | 2, hv => exact cell_blk (w := w2) hp2 (by simpa [abcde] using hv)
    | 3, hv => exact cell_blk (w := w2) hp2 (by simpa [abcde] using hv)
    | 4, hv => exact cell_blk (w := w2) hp2 (by simpa [abcde] using hv)
    | n + 5, hv => simp [abcde] at hv) (by decide) (by decide)
  have K2 := Lib.hid (And.intro hc2 (And.intro hb2 hp2))
  clear hc2 hb2 hp2 hw2 hw2' c0 c1 c2 c3' hf hc1 hb hq1 hb1 hp1
  go_wp2_with fail
  go_region
  obtain ⟨w3, hw3⟩ : ∃ w3, w3 = w2.drew.setRow b ab8 := ⟨_, rfl⟩
  rw [← hw3]
  obtain ⟨hc1, hb, hq1, hb1, hp1⟩ := K1.out
  obtain ⟨hc2, hb2, hp2⟩ := K2.out
  have hc3 : Ch [b] w2 w3 := by rw [hw3]; exact (Ch.refl _ _).drew.row (.inl (by simp)) _
  have hb3 : w3.heap[b]? = some (.cells ab8 5 (0, 0)) := by rw [hw3]; exact setRow_is (w := w2.drew) hb2
  have hbq : q ≠ b := by omega
  have hq3 := hc3.at_ (hc2.at_ hq1 (by simp)) (by simp; omega)
  have c1 : w3.cell? ⟨q, 1, none⟩ = some (.slice (some ⟨b, 0, none⟩) 8 8) := cell_blk hq3 rfl
  have c3 : w3.cell? ⟨q, 3, none⟩ = some (.int .i64 0) := cell_blk hq3 rfl
  have hf : ∀ j, w3.frozen? ⟨q, j, none⟩ = false := fun j => free_blk hq3
  have hcn : ∀ W d a x y u, (Builtin.copy_ #[40, 40] 3 #[.slice d x y, .slice a 0 u]).run Tryz.prog W = .ok (.int .i64 0) W := fun W d a x y u => run_copy_none (P := Tryz.prog) W _ _ _ 5 d a x y 0 u Tryz.underlying40 u8_sz (by simp)
  have K3 := Lib.hid (And.intro hc3 (And.intro hb3 hq3))
  clear hc1 hb hq1 hb1 hp1 hc2 hb2 hp2 hc3 hb3 hq3 hw3 hcp c1'
  go_wp2_with fail
  go_region
  go_wp2_with fail
  go_ret
  obtain ⟨hc1, hb, hq1, hb1, hp1⟩ := K1.out
  obtain ⟨hc2, hb2, hp2⟩ := K2.out
  obtain ⟨hc3, hb3, hq3⟩ := K3.out
  have s1 := hc1.size
  have hc4 : Ch [q] w3 (w3.setCell ⟨q, 3, none⟩ (.int .i64 5)) := (Ch.refl _ _).set (.inl (by simp)) _
  have hc14 : Ch [q] w w3 := ((hc1.trans hc2 (by simp)).trans hc3 (by simp; omega))
  refine ⟨rfl, ?_, b, hb, ?_, ?_⟩
  · exact (hc14.trans hc4 (by simp)).drew
  · exact drew_blk (set_is hq3 rfl)
  · exact drew_blk (hc4.at_ hb3 (by simp; omega))
end Go.Proofs.YtnpmafnhbbaokaaGreatDoor
