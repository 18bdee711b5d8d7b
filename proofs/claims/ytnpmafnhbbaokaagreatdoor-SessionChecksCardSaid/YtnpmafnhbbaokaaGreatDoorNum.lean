/-
  num's bytes: Bytes16, Bytes32, Get16, Get32.
-/
import Derived.Test.YtnpmafnhbbaokaaGreatDoorCode
import Derived.Deep.QuietTactic
import Derived.BigQuiet
import Derived.Laws.IdiomCopy
import Derived.Laws.NewBlocks
import Derived.Laws.Rows
import Derived.Laws.BitsAllLaws
namespace Go.Proofs.YtnpmafnhbbaokaaGreatDoor
open Go.RowKit
set_option linter.unusedVariables false
set_option linter.unusedSimpArgs false

/-- The world is as it was, but for orders that were drawn. -/
def Dr (w w' : World) : Prop := ∃ q, w' = w.drewN q
theorem Dr.refl (w : World) : Dr w w := ⟨0, rfl⟩
theorem Dr.heap {w w' : World} (h : Dr w w') : w'.heap = w.heap := by obtain ⟨q, rfl⟩ := h; rfl
theorem Dr.below {w w' : World} (h : Dr w w') (B : Nat) : Below B w w' := by obtain ⟨q, rfl⟩ := h; exact ⟨rfl, rfl, rfl, Nat.le_refl _, fun _ _ => rfl⟩
theorem Dr.blk {w w' : World} (h : Dr w w') (k : Nat) : w'.heap[k]? = w.heap[k]? := by rw [h.heap]
theorem Dr.cell {w w' : World} (h : Dr w w') (a : Addr) : w'.cell? a = w.cell? a := by unfold World.cell?; rw [h.heap]
theorem Dr.trans {a b c : World} (h : Dr a b) (k : Dr b c) : Dr a c := by
  obtain ⟨q, rfl⟩ := h
  obtain ⟨r, rfl⟩ := k
  exact ⟨q + r, World.drewN_drewN ..⟩
theorem Dr.undrew {w w' : World} (h : Dr w.drew w') : Dr w w' := by
  obtain ⟨q, rfl⟩ := h
  exact ⟨1 + q, World.drewN_drew ..⟩
def nums (k : IntKind) (xs : List Int) : List Value := xs.map fun x => .int k x
theorem nums_length (k : IntKind) (xs : List Int) : (nums k xs).length = xs.length := by simp [nums]
theorem nums_append (k : IntKind) (xs ys : List Int) : nums k (xs ++ ys) = nums k xs ++ nums k ys := by simp [nums]

theorem u8_info : (Tryz.prog.info? 5).map (fun i => (i.zero, i.size, i.bytes)) = some (some (.int .u8 0), 1, 1) := by kernel_rfl
theorem u8_size : (Tryz.prog.info? 5).map (·.size) = some 1 := by kernel_rfl
/-- What lies in a new block. -/
theorem own_block {w : World} {base g : Nat} {e : TypeId} {cs : Array Value} {n : Nat} {xs : List Value} (hg : base ≤ g) (h : w.heap[g]? = some (.cells cs e (0, 0))) (hx : cs.toList = xs) (hn : xs.length = n) (hm : n ≤ maxLen) :
    w.ownsRow base e 1 (.slice (some ⟨g, 0, none⟩) n n) n xs := by
  refine ⟨by omega, .inr ⟨g, n, cs, rfl, hg, h, Nat.le_refl _, hm, ?_, ?_⟩⟩
  · have : cs.size = xs.length := by rw [← hx]; simp
    omega
  · rw [hx, List.take_of_length_le (by omega)]
theorem alloc_at (w : World) (o : Obj) : (w.alloc o).heap[w.heap.size]? = some o := by
  show (w.heap.push o)[w.heap.size]? = _
  simp

theorem alloc_at2 (w : World) (o1 o2 : Obj) : ((w.alloc o1).alloc o2).heap[w.heap.size + 1]? = some o2 := by
  have := alloc_at (w.alloc o1) o2
  rwa [World.size_alloc] at this

theorem copy_new2 (w : World) (x y : Int) (T : TypeId) :
    (Builtin.copy_ #[40, 40] 3 #[.slice (some ⟨w.heap.size + 1, 0, none⟩) 2 2, .slice (some ⟨w.heap.size, 0, none⟩) 2 2]).run Tryz.prog ((w.alloc (.cells #[.int .u8 x, .int .u8 y] T)).alloc (.cells #[.int .u8 0, .int .u8 0] 5)) =
      .ok (.int .i64 2) ((w.alloc (.cells #[.int .u8 x, .int .u8 y] T)).alloc (.cells #[.int .u8 x, .int .u8 y] 5)) := by
  have h := run_copy_cells (P := Tryz.prog) ((w.alloc (.cells #[.int .u8 x, .int .u8 y] T)).alloc (.cells #[.int .u8 0, .int .u8 0] 5)) 40 40 3 5 (w.heap.size + 1) 0 2 2 ⟨w.heap.size, 0, none⟩ 2 2 [.int .u8 x, .int .u8 y]
    Tryz.underlying40 u8_size rfl ?_ ?_ ?_ (by intro u hu; simp at hu; rcases hu with rfl | rfl <;> rfl)
  · rw [h]
    simp [World.setCells, World.setCell_alloc_at, goInt]
  · intro j v hv
    match j, hv with
    | 0, hv => simp at hv; subst hv; simp [Addr.add, World.cell?_alloc_past, World.cell?_alloc_at]
    | 1, hv => simp at hv; subst hv; simp [Addr.add, World.cell?_alloc_past, World.cell?_alloc_at]
  · intro j hj
    match j, hj with
    | 0, _ => simp [World.cell?_alloc_at]
    | 1, _ => simp [World.cell?_alloc_at]
  · intro j hj
    rw [World.frozen?_alloc_at _ _ _ _ (by simp)]

theorem copy_new4 (w : World) (x y z t : Int) (T : TypeId) :
    (Builtin.copy_ #[40, 40] 3 #[.slice (some ⟨w.heap.size + 1, 0, none⟩) 4 4, .slice (some ⟨w.heap.size, 0, none⟩) 4 4]).run Tryz.prog ((w.alloc (.cells #[.int .u8 x, .int .u8 y, .int .u8 z, .int .u8 t] T)).alloc (.cells #[.int .u8 0, .int .u8 0, .int .u8 0, .int .u8 0] 5)) =
      .ok (.int .i64 4) ((w.alloc (.cells #[.int .u8 x, .int .u8 y, .int .u8 z, .int .u8 t] T)).alloc (.cells #[.int .u8 x, .int .u8 y, .int .u8 z, .int .u8 t] 5)) := by
  have h := run_copy_cells (P := Tryz.prog) ((w.alloc (.cells #[.int .u8 x, .int .u8 y, .int .u8 z, .int .u8 t] T)).alloc (.cells #[.int .u8 0, .int .u8 0, .int .u8 0, .int .u8 0] 5)) 40 40 3 5 (w.heap.size + 1) 0 4 4 ⟨w.heap.size, 0, none⟩ 4 4 [.int .u8 x, .int .u8 y, .int .u8 z, .int .u8 t]
    Tryz.underlying40 u8_size rfl ?_ ?_ ?_ (by intro u hu; simp at hu; rcases hu with rfl | rfl | rfl | rfl <;> rfl)
  · rw [h]
    simp [World.setCells, World.setCell_alloc_at, goInt]
  · intro j v hv
    match j, hv with
    | 0, hv => simp at hv; subst hv; simp [Addr.add, World.cell?_alloc_past, World.cell?_alloc_at]
    | 1, hv => simp at hv; subst hv; simp [Addr.add, World.cell?_alloc_past, World.cell?_alloc_at]
    | 2, hv => simp at hv; subst hv; simp [Addr.add, World.cell?_alloc_past, World.cell?_alloc_at]
    | 3, hv => simp at hv; subst hv; simp [Addr.add, World.cell?_alloc_past, World.cell?_alloc_at]
  · intro j hj
    match j, hj with
    | 0, _ => simp [World.cell?_alloc_at]
    | 1, _ => simp [World.cell?_alloc_at]
    | 2, _ => simp [World.cell?_alloc_at]
    | 3, _ => simp [World.cell?_alloc_at]
  · intro j hj
    rw [World.frozen?_alloc_at _ _ _ _ (by simp)]

theorem ret_two {a b c d : Value} (h : a = b) (h' : c = d) : Ending.returned (.tuple #[a, c]) = .returned (.tuple #[b, d]) := by rw [h, h']
theorem or16 {x0 x1 : Int} (b0 : 0 ≤ x0) (b1 : x0 ≤ 255) (b2 : 0 ≤ x1) (b3 : x1 ≤ 255) : bits .or .u16 (x0 * 256) x1 = x0 * 256 + x1 := by
  rw [u16_or _ _ (by omega) (by omega) (by omega) (by omega), nat_join 8 _ _ (by omega) (by omega)]; omega
theorem or32 {x0 x1 x2 x3 : Int} (b0 : 0 ≤ x0) (b1 : x0 ≤ 255) (b2 : 0 ≤ x1) (b3 : x1 ≤ 255) (b4 : 0 ≤ x2) (b5 : x2 ≤ 255) (b6 : 0 ≤ x3) (b7 : x3 ≤ 255) :
    bits .or .u32 (bits .or .u32 (bits .or .u32 (x0 * 16777216) (x1 * 65536)) (x2 * 256)) x3 = x0 * 16777216 + x1 * 65536 + x2 * 256 + x3 := by
  have e1 : bits .or .u32 (x0 * 16777216) (x1 * 65536) = x0 * 16777216 + x1 * 65536 := by
    rw [u32_or _ _ (by omega) (by omega) (by omega) (by omega), nat_join 24 _ _ (by omega) (by omega)]; omega
  have e2 : bits .or .u32 (x0 * 16777216 + x1 * 65536) (x2 * 256) = x0 * 16777216 + x1 * 65536 + x2 * 256 := by
    rw [u32_or _ _ (by omega) (by omega) (by omega) (by omega), nat_join 16 _ _ (by omega) (by omega)]; omega
  rw [e1, e2, u32_or _ _ (by omega) (by omega) (by omega) (by omega), nat_join 8 _ _ (by omega) (by omega)]; omega
set_option maxRecDepth 100000 in
theorem bytes16_any (v : Int) (w : World) (h0 : 0 ≤ v) (h1 : v ≤ 65535) :
    Calls Tryz.prog 121 #[.int .u16 v] w fun e w' => ∃ g, e = .returned (.slice (some ⟨g, 0, none⟩) 2 2) ∧ w'.ownsRow w.heap.size 5 1 (.slice (some ⟨g, 0, none⟩) 2 2) 2 (nums .u8 [v / 256, v % 256]) ∧ Below w.heap.size w w' := by
  have hmk : ∀ w : World, (Instr.makeSlice 40 (.int .i64 2) (.int .i64 2)).run Tryz.prog w = .ok (.slice (some ⟨w.heap.size, 0, none⟩) 2 2) (w.alloc (.cells #[.int .u8 0, .int .u8 0] 5)) := fun _ => by kernel_rfl
  have hcp := copy_new2 w (v / 256) (v % 256) 274
  go_enter Tryz.func121, Tryz.ntmps121
  go_wp2_with fail
  go_ret
  refine ⟨_, rfl, own_block (by omega) ?_ rfl rfl (by unfold maxLen; omega), ((Below.refl _ _).alloc (Nat.le_refl _) _).alloc (by simp) _⟩
  have := alloc_at (w.alloc (.cells #[.int .u8 (v / 256), .int .u8 (v % 256)] 274)) (.cells #[.int .u8 (v / 256), .int .u8 (v % 256)] 5)
  simpa using this

set_option maxRecDepth 100000 in
theorem bytes32_any (v : Int) (w : World) (h0 : 0 ≤ v) (h1 : v ≤ 4294967295) :
    Calls Tryz.prog 122 #[.int .u32 v] w fun e w' => ∃ g, e = .returned (.slice (some ⟨g, 0, none⟩) 4 4) ∧ w'.ownsRow w.heap.size 5 1 (.slice (some ⟨g, 0, none⟩) 4 4) 4 (nums .u8 [v / 16777216, v / 65536 % 256, v / 256 % 256, v % 256]) ∧ Below w.heap.size w w' := by
  have hmk : ∀ w : World, (Instr.makeSlice 40 (.int .i64 4) (.int .i64 4)).run Tryz.prog w = .ok (.slice (some ⟨w.heap.size, 0, none⟩) 4 4) (w.alloc (.cells #[.int .u8 0, .int .u8 0, .int .u8 0, .int .u8 0] 5)) := fun _ => by kernel_rfl
  have hcp := copy_new4 w (v / 16777216) (v / 65536 % 256) (v / 256 % 256) (v % 256) 275
  go_enter Tryz.func122, Tryz.ntmps122
  go_wp2_with fail
  go_ret
  refine ⟨_, rfl, own_block (by omega) ?_ rfl rfl (by unfold maxLen; omega), ((Below.refl _ _).alloc (Nat.le_refl _) _).alloc (by simp) _⟩
  have := alloc_at (w.alloc (.cells #[.int .u8 (v / 16777216), .int .u8 (v / 65536 % 256), .int .u8 (v / 256 % 256), .int .u8 (v % 256)] 275)) (.cells #[.int .u8 (v / 16777216), .int .u8 (v / 65536 % 256), .int .u8 (v / 256 % 256), .int .u8 (v % 256)] 5)
  simpa using this

