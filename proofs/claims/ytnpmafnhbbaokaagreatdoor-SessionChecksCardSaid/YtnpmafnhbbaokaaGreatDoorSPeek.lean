/-
  ring.Pop of the frame's bytes, and credit.Spend of as many.
-/
import Derived.Test.YtnpmafnhbbaokaaGreatDoorSWrite
import Derived.Test.YtnpmafnhbbaokaaGreatDoorErrs
namespace Go.Proofs.YtnpmafnhbbaokaaGreatDoor
open Go Go.RowKit
open Go.ChangeMaps (setBlock)
set_option linter.unusedVariables false
set_option linter.unusedSimpArgs false
/-- Which bytes go: 3 of 5 from the first, then 1 of 2 from the fourth. -/
def PopC (h m j : Nat) : Prop := (h = 0 ∧ m = 5 ∧ j = 3) ∨ (h = 3 ∧ m = 2 ∧ j = 1)
def dat (h j : Nat) : List Int := (([97, 98, 99, 100, 101] : List Int).drop h).take j
def dv (h j : Nat) : Array Value := ((dat h j).map (Value.int .u8)).toArray
def zr (j : Nat) : Array Value := (z8.toList.take j).toArray
def rgC (b h m : Nat) : Array Value := #[.int .i64 8, .slice (some ⟨b, 0, none⟩) 8 8, .int .i64 h, .int .i64 m]
set_option maxRecDepth 100000 in
set_option maxHeartbeats 1000000 in
theorem copyTo_1 {w : World} {q b g h m j : Nat} (hp : PopC h m j) (hq : w.heap[q]? = some (.cells (rgC b h m) 188 (0, 0))) (hb : w.heap[b]? = some (.cells ab8 5 (0, 0))) (hg : w.heap[g]? = some (.cells (zr j) 5 (0, 0))) (hgb : g ≠ b) (hgq : g ≠ q) :
    Calls Tryz.prog 114 #[pt q, .slice (some ⟨g, 0, none⟩) j j, .int .i64 0] w fun e w' => e = .returned (.tuple #[]) ∧ Ch [g] w w' ∧ w'.heap[g]? = some (.cells (dv h j) 5 (0, 0)) := by
  have hcn : ∀ W d a x y u, (Builtin.copy_ #[40, 40] 3 #[.slice d 0 x, .slice a y u]).run Tryz.prog W = .ok (.int .i64 0) W := fun W d a x y u => run_copy_none (P := Tryz.prog) W _ _ _ 5 d a 0 x y u Tryz.underlying40 u8_sz (by simp)
  rcases hp with ⟨rfl, rfl, rfl⟩ | ⟨rfl, rfl, rfl⟩
  · have c1 : w.cell? ⟨q, 1, none⟩ = some (.slice (some ⟨b, 0, none⟩) 8 8) := cell_blk hq rfl
    have c2 : w.cell? ⟨q, 2, none⟩ = some (.int .i64 0) := cell_blk hq rfl
    have z0 : IntKind.i64.wrap (0 + 0) = 0 := by rw [IntKind.wrap_i64]; omega
    have z1 : IntKind.i64.wrap 0 = 0 := by rw [IntKind.wrap_i64]; omega
    have hcp : (Builtin.copy_ #[40, 40] 3 #[.slice (some ⟨g, 0, none⟩) 3 3, .slice (some ⟨b, 0, none⟩) 8 8]).run Tryz.prog w.drew = .ok (.int .i64 3) (w.drew.setRow g (dv 0 3)) := run_copy_row (P := Tryz.prog) w.drew 40 40 3 5 g 0 3 3 ⟨b, 0, none⟩ 8 8 (zr 3) 5 (dv 0 3).toList Tryz.underlying40 u8_sz hg rfl (by
      intro i v hv
      match i, hv with
      | 0, hv => exact cell_blk (w := w) hb (by simpa [dv, dat, ab8] using hv)
      | 1, hv => exact cell_blk (w := w) hb (by simpa [dv, dat, ab8] using hv)
      | 2, hv => exact cell_blk (w := w) hb (by simpa [dv, dat, ab8] using hv)
      | n + 3, hv => simp [dv, dat] at hv) (by decide) (by decide)
    have K := Lib.hid (And.intro hq hg)
    clear hq hb hg
    go_enter Tryz.func114, Tryz.ntmps114
    unfold pt
    go_wp2_with fail
    go_region
    go_wp2_with fail
    obtain ⟨w2, hw2⟩ : ∃ w2, w2 = w.drew.setRow g (dv 0 3) := ⟨_, rfl⟩
    rw [← hw2]
    have hc2 : Ch [g] w w2 := by rw [hw2]; exact (Ch.refl _ _).drew.row (.inl (by simp)) _
    have hg2 : w2.heap[g]? = some (.cells (dv 0 3) 5 (0, 0)) := by rw [hw2]; exact setRow_is (w := w.drew) K.out.2
    have hq2 := hc2.at_ K.out.1 (by simp; omega)
    have c1 : w2.cell? ⟨q, 1, none⟩ = some (.slice (some ⟨b, 0, none⟩) 8 8) := cell_blk hq2 rfl
    have K2 := Lib.hid (And.intro hc2 hg2)
    clear hc2 hg2 hq2 hw2
    go_region
    go_end0
    exact ⟨rfl, K2.out.1.drew, K2.out.2⟩
  · have c1 : w.cell? ⟨q, 1, none⟩ = some (.slice (some ⟨b, 0, none⟩) 8 8) := cell_blk hq rfl
    have c2 : w.cell? ⟨q, 2, none⟩ = some (.int .i64 3) := cell_blk hq rfl
    have z0 : IntKind.i64.wrap (3 + 0) = 3 := by rw [IntKind.wrap_i64]; omega
    have z1 : IntKind.i64.wrap 3 = 3 := by rw [IntKind.wrap_i64]; omega
    have hcp : (Builtin.copy_ #[40, 40] 3 #[.slice (some ⟨g, 0, none⟩) 1 1, .slice (some ⟨b, 3, none⟩) 5 5]).run Tryz.prog w.drew = .ok (.int .i64 1) (w.drew.setRow g (dv 3 1)) := run_copy_row (P := Tryz.prog) w.drew 40 40 3 5 g 0 1 1 ⟨b, 3, none⟩ 5 5 (zr 1) 5 (dv 3 1).toList Tryz.underlying40 u8_sz hg rfl (by
      intro i v hv
      match i, hv with
      | 0, hv => exact cell_blk (w := w) hb (by simpa [dv, dat, ab8] using hv)
      | n + 1, hv => simp [dv, dat] at hv) (by decide) (by decide)
    have K := Lib.hid (And.intro hq hg)
    clear hq hb hg
    go_enter Tryz.func114, Tryz.ntmps114
    unfold pt
    go_wp2_with fail
    go_region
    go_wp2_with fail
    obtain ⟨w2, hw2⟩ : ∃ w2, w2 = w.drew.setRow g (dv 3 1) := ⟨_, rfl⟩
    rw [← hw2]
    have hc2 : Ch [g] w w2 := by rw [hw2]; exact (Ch.refl _ _).drew.row (.inl (by simp)) _
    have hg2 : w2.heap[g]? = some (.cells (dv 3 1) 5 (0, 0)) := by rw [hw2]; exact setRow_is (w := w.drew) K.out.2
    have hq2 := hc2.at_ K.out.1 (by simp; omega)
    have c1 : w2.cell? ⟨q, 1, none⟩ = some (.slice (some ⟨b, 0, none⟩) 8 8) := cell_blk hq2 rfl
    have K2 := Lib.hid (And.intro hc2 hg2)
    clear hc2 hg2 hq2 hw2
    go_region
    go_end0
    exact ⟨rfl, K2.out.1.drew, K2.out.2⟩
set_option maxRecDepth 100000 in
set_option maxHeartbeats 1000000 in
theorem drop_1r {w : World} {q b h m j : Nat} (hp : PopC h m j) (hq : w.heap[q]? = some (.cells (rgC b h m) 188 (0, 0))) :
    Calls Tryz.prog 111 #[pt q, .int .i64 j] w fun e w' => e = .returned (.int .i64 j) ∧ Ch [q] w w' ∧ w'.heap[q]? = some (.cells (rgC b (h + j) (m - j)) 188 (0, 0)) := by
  have HL := Lib.hid (rlen_any hq)
  have hf : ∀ j, w.frozen? ⟨q, j, none⟩ = false := fun j => free_blk hq
  have hlt : q < w.heap.size := blk_lt hq
  rcases hp with ⟨rfl, rfl, rfl⟩ | ⟨rfl, rfl, rfl⟩
  · have c1 : w.cell? ⟨q, 1, none⟩ = some (.slice (some ⟨b, 0, none⟩) 8 8) := cell_blk hq rfl
    have c2 : w.cell? ⟨q, 2, none⟩ = some (.int .i64 0) := cell_blk hq rfl
    have c3 : w.cell? ⟨q, 3, none⟩ = some (.int .i64 5) := cell_blk hq rfl
    have z0 : IntKind.i64.wrap (0 + 3) = 3 := by rw [IntKind.wrap_i64]; omega
    have z1 : IntKind.i64.wrap 3 = 3 := by rw [IntKind.wrap_i64]; omega
    have hmx : ∀ W, (Builtin.max_ #[3, 3] 3 #[.int .i64 3, .int .i64 0]).run Tryz.prog W = .ok (.int .i64 3) W := fun _ => by kernel_rfl
    have hmn : ∀ W, (Builtin.min_ #[3, 3] 3 #[.int .i64 3, .int .i64 5]).run Tryz.prog W = .ok (.int .i64 3) W := fun _ => by kernel_rfl
    have HQ := Lib.hid hq
    clear hq
    go_enter Tryz.func111, Tryz.ntmps111
    unfold pt
    go_wp2_with fail
    refine HL.out.mono ?_
    rintro e w ⟨rfl, rfl⟩
    go_wp2_with fail
    go_region
    go_wp2_with fail
    go_ret
    refine ⟨rfl, ?_, ?_⟩
    · first | exact (((Ch.refl _ _).set (.inl (by simp)) _).drew.set (.inl (by simp)) _) | exact (((Ch.refl _ _).set (.inl (by simp)) _).set (.inl (by simp)) _).drew | exact (((Ch.refl _ _).drew.set (.inl (by simp)) _).set (.inl (by simp)) _)
    · first | exact set_is (drew_blk (set_is HQ.out rfl)) rfl | exact drew_blk (set_is (set_is HQ.out rfl) rfl) | exact set_is (set_is (drew_blk HQ.out) rfl) rfl
  · have c1 : w.cell? ⟨q, 1, none⟩ = some (.slice (some ⟨b, 0, none⟩) 8 8) := cell_blk hq rfl
    have c2 : w.cell? ⟨q, 2, none⟩ = some (.int .i64 3) := cell_blk hq rfl
    have c3 : w.cell? ⟨q, 3, none⟩ = some (.int .i64 2) := cell_blk hq rfl
    have z0 : IntKind.i64.wrap (3 + 1) = 4 := by rw [IntKind.wrap_i64]; omega
    have z1 : IntKind.i64.wrap 4 = 4 := by rw [IntKind.wrap_i64]; omega
    have hmx : ∀ W, (Builtin.max_ #[3, 3] 3 #[.int .i64 1, .int .i64 0]).run Tryz.prog W = .ok (.int .i64 1) W := fun _ => by kernel_rfl
    have hmn : ∀ W, (Builtin.min_ #[3, 3] 3 #[.int .i64 1, .int .i64 2]).run Tryz.prog W = .ok (.int .i64 1) W := fun _ => by kernel_rfl
    have HQ := Lib.hid hq
    clear hq
    go_enter Tryz.func111, Tryz.ntmps111
    unfold pt
    go_wp2_with fail
    refine HL.out.mono ?_
    rintro e w ⟨rfl, rfl⟩
    go_wp2_with fail
    go_region
    go_wp2_with fail
    go_ret
    refine ⟨rfl, ?_, ?_⟩
    · first | exact (((Ch.refl _ _).set (.inl (by simp)) _).drew.set (.inl (by simp)) _) | exact (((Ch.refl _ _).set (.inl (by simp)) _).set (.inl (by simp)) _).drew | exact (((Ch.refl _ _).drew.set (.inl (by simp)) _).set (.inl (by simp)) _)
    · first | exact set_is (drew_blk (set_is HQ.out rfl)) rfl | exact drew_blk (set_is (set_is HQ.out rfl) rfl) | exact set_is (set_is (drew_blk HQ.out) rfl) rfl
set_option maxRecDepth 100000 in
set_option maxHeartbeats 1000000 in
theorem peek_1 {w : World} {q b h m j : Nat} (hp : PopC h m j) (hq : w.heap[q]? = some (.cells (rgC b h m) 188 (0, 0))) (hb : w.heap[b]? = some (.cells ab8 5 (0, 0))) :
    Calls Tryz.prog 117 #[pt q, .int .i64 j] w fun e w' => ∃ g, e = .returned (.slice (some ⟨g, 0, none⟩) j j) ∧ w.heap.size ≤ g ∧ Ch [] w w' ∧ w'.heap[g]? = some (.cells (dv h j) 5 (0, 0)) := by
  have HL := Lib.hid (rlen_any hq)
  have hlt : q < w.heap.size := blk_lt hq
  have hlb : b < w.heap.size := blk_lt hb
  have HC := Lib.hid (copyTo_1 (w := w.alloc (.cells (zr j) 5)) (g := w.heap.size) hp (alloc_old _ hq) (alloc_old _ hb) (alloc_is _ rfl) (by omega) (by omega))
  clear hq hb
  rcases hp with ⟨rfl, rfl, rfl⟩ | ⟨rfl, rfl, rfl⟩
  · have hmx : ∀ W, (Builtin.max_ #[3, 3] 3 #[.int .i64 3, .int .i64 0]).run Tryz.prog W = .ok (.int .i64 3) W := fun _ => by kernel_rfl
    have hmn : ∀ W, (Builtin.min_ #[3, 3] 3 #[.int .i64 3, .int .i64 5]).run Tryz.prog W = .ok (.int .i64 3) W := fun _ => by kernel_rfl
    have hmk : ∀ W : World, (Instr.makeSlice 40 (.int .i64 3) (.int .i64 3)).run Tryz.prog W = .ok (.slice (some ⟨W.heap.size, 0, none⟩) 3 3) (W.alloc (.cells (zr 3) 5)) := fun _ => by kernel_rfl
    go_enter Tryz.func117, Tryz.ntmps117
    unfold pt
    go_wp2_with fail
    refine HL.out.mono ?_
    rintro e w ⟨rfl, rfl⟩
    go_wp2_with fail
    unfold pt at HC
    refine HC.out.mono ?_
    rintro e w1 ⟨rfl, hc, hd⟩
    have K := Lib.hid (And.intro hc hd)
    clear hc hd
    go_wp2_with fail
    go_ret
    exact ⟨_, rfl, Nat.le_refl _, ((Ch.refl _ _).alloc _).trans K.out.1 (by simp), K.out.2⟩
  · have hmx : ∀ W, (Builtin.max_ #[3, 3] 3 #[.int .i64 1, .int .i64 0]).run Tryz.prog W = .ok (.int .i64 1) W := fun _ => by kernel_rfl
    have hmn : ∀ W, (Builtin.min_ #[3, 3] 3 #[.int .i64 1, .int .i64 2]).run Tryz.prog W = .ok (.int .i64 1) W := fun _ => by kernel_rfl
    have hmk : ∀ W : World, (Instr.makeSlice 40 (.int .i64 1) (.int .i64 1)).run Tryz.prog W = .ok (.slice (some ⟨W.heap.size, 0, none⟩) 1 1) (W.alloc (.cells (zr 1) 5)) := fun _ => by kernel_rfl
    go_enter Tryz.func117, Tryz.ntmps117
    unfold pt
    go_wp2_with fail
    refine HL.out.mono ?_
    rintro e w ⟨rfl, rfl⟩
    go_wp2_with fail
    unfold pt at HC
    refine HC.out.mono ?_
    rintro e w1 ⟨rfl, hc, hd⟩
    have K := Lib.hid (And.intro hc hd)
    clear hc hd
    go_wp2_with fail
    go_ret
    exact ⟨_, rfl, Nat.le_refl _, ((Ch.refl _ _).alloc _).trans K.out.1 (by simp), K.out.2⟩
set_option maxRecDepth 100000 in
set_option maxHeartbeats 1000000 in
theorem pop_1 {w : World} {q b h m j : Nat} (hp : PopC h m j) (hq : w.heap[q]? = some (.cells (rgC b h m) 188 (0, 0))) (hb : w.heap[b]? = some (.cells ab8 5 (0, 0))) :
    Calls Tryz.prog 98 #[pt q, .int .i64 j] w fun e w' => ∃ g, e = .returned (.slice (some ⟨g, 0, none⟩) j j) ∧ w.heap.size ≤ g ∧ Ch [q] w w' ∧ w'.heap[g]? = some (.cells (dv h j) 5 (0, 0)) ∧ w'.heap[q]? = some (.cells (rgC b (h + j) (m - j)) 188 (0, 0)) := by
  have HK := Lib.hid (peek_1 hp hq hb)
  have HQ := Lib.hid hq
  have hlt : q < w.heap.size := blk_lt hq
  clear hq hb
  go_enter Tryz.func98, Tryz.ntmps98
  unfold pt at HK
  unfold pt
  go_wp2_with fail
  refine HK.out.mono ?_
  rintro e w1 ⟨g, rfl, hg, hc1, hd1⟩
  have HD := Lib.hid (drop_1r hp (hc1.at_ HQ.out (by simp)))
  have K := Lib.hid (And.intro hc1 hd1)
  clear hc1 hd1
  unfold pt at HD
  go_wp2_with fail
  refine HD.out.mono ?_
  rintro e w2 ⟨rfl, hc2, hq2⟩
  have K2 := Lib.hid (And.intro hc2 hq2)
  clear hc2 hq2
  go_wp2_with fail
  go_ret
  exact ⟨g, rfl, hg, (K.out.1.mono (fun j hj => by cases hj)).trans K2.out.1 (fun j hj => .inl hj), K2.out.1.at_ K.out.2 (by simp; omega), K2.out.2⟩
theorem narrow_any {w : World} {n : Int} (h0 : 0 ≤ n) (h1 : n ≤ 4294967295) :
    Calls Tryz.prog 118 #[.int .i64 n] w fun e w' => e = .returned (.tuple #[.int .u32 n, .nilIface]) ∧ w' = w := by
  have d0 : decide (n < 0) = false := by simp; omega
  have d1 : decide (4294967295 < n) = false := by simp; omega
  have z : IntKind.u32.wrap n = n := by rw [IntKind.wrap_u32]; omega
  go_enter Tryz.func118, Tryz.ntmps118
  go_wp2_with fail
  go_ret2
  exact ⟨rfl, rfl⟩
theorem sub_any {w : World} {a b : Int} (h0 : 0 ≤ b) (h1 : b ≤ a) (h2 : a ≤ 4294967295) :
    Calls Tryz.prog 119 #[.int .u32 a, .int .u32 b] w fun e w' => e = .returned (.tuple #[.int .u32 (a - b), .nilIface]) ∧ w' = w := by
  have d0 : decide (a < b) = false := by simp; omega
  have z : IntKind.u32.wrap (a - b) = a - b := by rw [IntKind.wrap_u32]; omega
  go_enter Tryz.func119, Tryz.ntmps119
  go_wp2_with fail
  go_ret2
  exact ⟨rfl, rfl⟩
end Go.Proofs.YtnpmafnhbbaokaaGreatDoor
