/-
  frame.Encode and frame.Decode.
-/
import Derived.Test.YtnpmafnhbbaokaaGreatDoorNum
import Derived.WalkSpells
namespace Go.Proofs.YtnpmafnhbbaokaaGreatDoor
open Go.RowKit
set_option linter.unusedVariables false
set_option linter.unusedSimpArgs false

/-- A header, as a value. -/
abbrev hdr (ver ty fl st ln : Int) : Value := .agg #[.int .u8 ver, .int .u8 ty, .int .u16 fl, .int .u32 st, .int .u32 ln]
def enc (ver ty fl st ln : Int) : List Int := [ver, ty, fl / 256, fl % 256, st / 16777216, st / 65536 % 256, st / 256 % 256, st % 256, ln / 16777216, ln / 65536 % 256, ln / 256 % 256, ln % 256]

theorem blk_old {w : World} {k : Nat} (o : Obj) (h : k < w.heap.size) : (w.alloc o).heap[k]? = w.heap[k]? := Below.heap_alloc _ _ _ h
theorem cell_blk {w : World} {g j : Nat} {cs : Array Value} {t : TypeId} {fz : Nat × Nat} {v : Value} (h : w.heap[g]? = some (.cells cs t fz)) (hj : cs[j]? = some v) : w.cell? ⟨g, j, none⟩ = some v := by
  unfold World.cell?
  simp [h, hj]
theorem grown_blk {w w' : World} {row : Option Nat} {g : Nat} {o : Obj} (hg : w.grownBy w' row) (hne : row ≠ some g) (h : w.heap[g]? = some o) : w'.heap[g]? = some o :=
  (hg.block g (Array.getElem?_eq_some_iff.1 h).1 (fun e => hne e.symm)).trans h

theorem free_blk {w : World} {g j : Nat} {cs : Array Value} {t : TypeId} (h : w.heap[g]? = some (.cells cs t (0, 0))) : w.frozen? ⟨g, j, none⟩ = false := by
  unfold World.frozen?
  simp [h]
theorem set_blk {w : World} {g j : Nat} {cs : Array Value} {t : TypeId} {fz : Nat × Nat} (v : Value) (h : w.heap[g]? = some (.cells cs t fz)) : (w.setCell ⟨g, j, none⟩ v).heap[g]? = some (.cells (cs.setIfInBounds j v) t fz) := by
  simp [World.setCell, Array.getElem?_modify, h]
/-- Encode's first three operations' world. -/
def encW (ver ty fl st ln : Int) (w : World) : World :=
  ((w.alloc (.cells #[.int .u8 ver, .int .u8 ty, .int .u16 fl, .int .u32 st, .int .u32 ln] 87)).alloc
    (.cells #[.int .u8 ver, .int .u8 ty, .int .u8 0, .int .u8 0, .int .u8 0, .int .u8 0, .int .u8 0, .int .u8 0, .int .u8 0, .int .u8 0, .int .u8 0, .int .u8 0] 5)).alloc (.cells #[.int .u8 ver, .int .u8 ty] 5)
theorem encW_size (ver ty fl st ln : Int) (w : World) : (encW ver ty fl st ln w).heap.size = w.heap.size + 3 := by simp [encW]
theorem encW_head (ver ty fl st ln : Int) (w : World) : (encW ver ty fl st ln w).heap[w.heap.size]? = some (.cells #[.int .u8 ver, .int .u8 ty, .int .u16 fl, .int .u32 st, .int .u32 ln] 87 (0, 0)) := by
  unfold encW
  rw [blk_old _ (by simp; omega), blk_old _ (by simp), alloc_at]
theorem encW_row (ver ty fl st ln : Int) (w : World) : (encW ver ty fl st ln w).heap[w.heap.size + 1]? = some (.cells #[.int .u8 ver, .int .u8 ty, .int .u8 0, .int .u8 0, .int .u8 0, .int .u8 0, .int .u8 0, .int .u8 0, .int .u8 0, .int .u8 0, .int .u8 0, .int .u8 0] 5 (0, 0)) := by
  unfold encW
  rw [blk_old _ (by simp)]
  have := alloc_at (w.alloc (.cells #[.int .u8 ver, .int .u8 ty, .int .u16 fl, .int .u32 st, .int .u32 ln] 87)) (.cells #[.int .u8 ver, .int .u8 ty, .int .u8 0, .int .u8 0, .int .u8 0, .int .u8 0, .int .u8 0, .int .u8 0, .int .u8 0, .int .u8 0, .int .u8 0, .int .u8 0] 5)
  simpa using this
theorem encW_below (ver ty fl st ln : Int) (w : World) : Below w.heap.size w (encW ver ty fl st ln w) :=
  (((Below.refl _ _).alloc (Nat.le_refl _) _).alloc (by simp) _).alloc (by simp; omega) _
theorem encW_own (ver ty fl st ln : Int) (w : World) : (encW ver ty fl st ln w).ownsRow w.heap.size 5 1 (.slice (some ⟨w.heap.size + 1, 0, none⟩) 2 12) 2 (nums .u8 [ver, ty]) :=
  ⟨rfl, .inr ⟨_, 12, _, rfl, by omega, encW_row ver ty fl st ln w, by omega, by unfold maxLen; omega, rfl, rfl⟩⟩
theorem own_below {w w1 : World} {base : Nat} {e : TypeId} {size n : Nat} {v : Value} {xs : List Value} (h : w.ownsRow base e size v n xs) (hb : Below w.heap.size w w1) : w1.ownsRow base e size v n xs :=
  h.kept (row := none) ⟨hb.os, hb.tape, hb.output, hb.size, fun i hi _ => hb.block i hi⟩ (by cases v.ownBlock <;> simp)

theorem nums_one (k : IntKind) (xs : List Int) : ∀ u ∈ nums k xs, u.oneCell' = true := by
  intro u hu
  obtain ⟨_, _, rfl⟩ := List.mem_map.1 hu
  rfl
theorem row_cells {w : World} {base : Nat} {e : TypeId} {g n c : Nat} {xs : List Value} (h : w.ownsRow base e 1 (.slice (some ⟨g, 0, none⟩) n c) n xs) : ∀ j u, xs[j]? = some u → w.cell? ((⟨g, 0, none⟩ : Addr).add j) = some u := by
  intro j u hu
  have hj : j < n * 1 := by
    have := (List.getElem?_eq_some_iff.1 hu).1
    have := h.1
    omega
  rw [Addr.add_lit, Nat.zero_add, h.cellAt j hj, hu]

set_option maxRecDepth 100000 in
theorem encode_any (ver ty fl st ln : Int) (w : World) (f0 : 0 ≤ fl) (f1 : fl ≤ 65535) (s0 : 0 ≤ st) (s1 : st ≤ 4294967295) (l0 : 0 ≤ ln) (l1 : ln ≤ 4294967295) :
    Calls Tryz.prog 103 #[hdr ver ty fl st ln] w fun e w' => ∃ g, e = .returned (.slice (some ⟨g, 0, none⟩) 12 12) ∧ w'.ownsRow w.heap.size 5 1 (.slice (some ⟨g, 0, none⟩) 12 12) 12 (nums .u8 (enc ver ty fl st ln)) ∧ Below w.heap.size w w' := by
  have hmk : ∀ w : World, (Instr.makeSlice 40 (.int .i64 0) (.int .i64 12)).run Tryz.prog w = .ok (.slice (some ⟨w.heap.size, 0, none⟩) 0 12) (w.alloc (.cells #[.int .u8 0, .int .u8 0, .int .u8 0, .int .u8 0, .int .u8 0, .int .u8 0, .int .u8 0, .int .u8 0, .int .u8 0, .int .u8 0, .int .u8 0, .int .u8 0] 5)) := fun _ => by kernel_rfl
  obtain ⟨i0, hi, hz0, hz1, hz2⟩ := info_parts u8_info
  go_enter Tryz.func103, Tryz.ntmps103
  go_wp2_with fail
  change Calls _ _ _ (encW ver ty fl st ln w) _
  refine (bytes16_any fl _ f0 f1).mono ?_
  rintro e w1 ⟨g1, rfl, ho1, hb1⟩
  have hsz := encW_size ver ty fl st ln w
  have hH1 := (hb1.block w.heap.size (by omega)).trans (encW_head ver ty fl st ln w)
  have hO1 := own_below (encW_own ver ty fl st ln w) hb1
  have hB1 := (encW_below ver ty fl st ln w).trans (hb1.mono (by omega))
  have hZ1 : w.heap.size + 3 ≤ w1.heap.size := by have := hb1.size; omega
  have e1 : w1.cell? ⟨w.heap.size, 3, none⟩ = some (.int .u32 st) := cell_blk hH1 rfl
  have HH1 := Lib.hid hH1
  have HO1 := Lib.hid hO1
  have HB1 := Lib.hid hB1
  have Ho1 := Lib.hid ho1
  clear hH1 hO1 hB1 ho1 hb1 hsz
  go_wp2_with (at_builtin; refine wpList_append_fits _ rfl _ _ 40 rfl w.heap.size 5 i0 1 Tryz.underlying40 hi hz1 (w.heap.size + 1) 2 12 _ rfl HO1.out ⟨g1, 0, none⟩ 2 2 (nums .u8 [fl / 256, fl % 256]) rfl rfl (row_cells Ho1.out) (nums_one _ _) (by omega) ?_; intro w2 ho2 hg2; have hH2 := grown_blk hg2 (by simp) HH1.out; have e2 : w2.cell? ⟨w.heap.size, 3, none⟩ = some (.int .u32 st) := cell_blk hH2 rfl; have HH2 := Lib.hid hH2; have HO2 := Lib.hid ho2; have HG2 := Lib.hid hg2; clear hH2 ho2 hg2)
  have HB2 := Lib.hid (HB1.out.grown HG2.out (by omega) (fun k hk => by cases hk; omega))
  have hZ2 : w.heap.size + 3 ≤ w2.heap.size := by have := HG2.out.size; omega
  refine (bytes32_any st _ s0 s1).mono ?_
  rintro e w3 ⟨g3, rfl, ho3, hb3⟩
  have hH3 := (hb3.block w.heap.size (by omega)).trans HH2.out
  have hO3 : w3.ownsRow w.heap.size 5 1 (.slice (some ⟨w.heap.size + 1, 0, none⟩) 4 12) 4 (nums .u8 [ver, ty, fl / 256, fl % 256]) := own_below HO2.out hb3
  have HB3 := Lib.hid (HB2.out.trans (hb3.mono (by omega)))
  have hZ3 : w.heap.size + 3 ≤ w3.heap.size := by have := hb3.size; omega
  have HH3 := Lib.hid hH3
  have HO3 := Lib.hid hO3
  have Ho3 := Lib.hid ho3
  clear hH3 hO3 ho3 hb3 e1 e2
  go_wp2_with (at_builtin; refine wpList_append_fits _ rfl _ _ 40 rfl w.heap.size 5 i0 1 Tryz.underlying40 hi hz1 (w.heap.size + 1) 4 12 _ rfl HO3.out ⟨g3, 0, none⟩ 4 4 (nums .u8 [st / 16777216, st / 65536 % 256, st / 256 % 256, st % 256]) rfl rfl (row_cells Ho3.out) (nums_one _ _) (by omega) ?_; intro w4 ho4 hg4; have hH4 := grown_blk hg4 (by simp) HH3.out; have e4 : w4.cell? ⟨w.heap.size, 4, none⟩ = some (.int .u32 ln) := cell_blk hH4 rfl; have HO4 := Lib.hid ho4; have HG4 := Lib.hid hg4; clear hH4 ho4 hg4)
  have HB4 := Lib.hid (HB3.out.grown HG4.out (by omega) (fun k hk => by cases hk; omega))
  have hZ4 : w.heap.size + 3 ≤ w4.heap.size := by have := HG4.out.size; omega
  refine (bytes32_any ln _ l0 l1).mono ?_
  rintro e w5 ⟨g5, rfl, ho5, hb5⟩
  have hO5 : w5.ownsRow w.heap.size 5 1 (.slice (some ⟨w.heap.size + 1, 0, none⟩) 8 12) 8 (nums .u8 [ver, ty, fl / 256, fl % 256, st / 16777216, st / 65536 % 256, st / 256 % 256, st % 256]) := own_below HO4.out hb5
  have HB5 := Lib.hid (HB4.out.trans (hb5.mono (by omega)))
  have hZ5 : w.heap.size + 3 ≤ w5.heap.size := by have := hb5.size; omega
  have HO5 := Lib.hid hO5
  have Ho5 := Lib.hid ho5
  clear hO5 ho5 hb5 e4
  go_wp2_with (at_builtin; refine wpList_append_fits _ rfl _ _ 40 rfl w.heap.size 5 i0 1 Tryz.underlying40 hi hz1 (w.heap.size + 1) 8 12 _ rfl HO5.out ⟨g5, 0, none⟩ 4 4 (nums .u8 [ln / 16777216, ln / 65536 % 256, ln / 256 % 256, ln % 256]) rfl rfl (row_cells Ho5.out) (nums_one _ _) (by omega) ?_; intro w6 ho6 hg6)
  go_ret
  exact ⟨_, rfl, ho6, HB5.out.grown hg6 (by omega) (fun k hk => by cases hk; omega)⟩
end Go.Proofs.YtnpmafnhbbaokaaGreatDoor
