import Derived.Test.YtfddhipdedcacaaDoorMB
import Derived.ArgAppend
import Derived.Deep.LoopGhost
import Derived.WalkMore
import Derived.WalkSmall
import Derived.Deep.OwnRows
import Derived.Test.YtfddhipdedcacaaDoorMC
import Derived.Test.YtfddhipdedcacaaDoorMH
import Derived.Test.YtfddhipdedcacaaDoorMG
import Derived.Deep.DeepCutAuto
/-
  Rows of bytes told by their cells; an append that may write into a row's spare room.
-/
namespace Go.Proofs.YtfddhipdedcacaaDoor
open Go.RowKit
set_option linter.unusedVariables false
set_option linter.unusedSimpArgs false
/-- A slice of n bytes with room for c, from offset o of block b on; byte j is f j. -/
structure CR (W : World) (b o n c : Nat) (f : Nat → Int) : Prop where
  le : n ≤ c
  max : c ≤ 9223372036854775807
  rd : ∀ j, j < n → W.cell? ⟨b, o + j, none⟩ = some (.int .u8 (f j))
  there : ∀ j, j < c → (W.cell? ⟨b, o + j, none⟩).isSome = true ∧ W.frozen? ⟨b, o + j, none⟩ = false
/-- w1 is W but for cells of block b from lo on, and for new blocks. -/
structure Spr (W w1 : World) (b lo : Nat) : Prop where
  os : w1.os = W.os
  tape : w1.tape = W.tape
  output : w1.output = W.output
  size : W.heap.size ≤ w1.heap.size
  block : ∀ k, k < W.heap.size → k ≠ b → w1.heap[k]? = W.heap[k]?
  cell : ∀ j, b < W.heap.size → j < lo → w1.cell? ⟨b, j, none⟩ = W.cell? ⟨b, j, none⟩
  there : ∀ j, b < W.heap.size → (W.cell? ⟨b, j, none⟩).isSome = true → (w1.cell? ⟨b, j, none⟩).isSome = true
  frozen : ∀ j, b < W.heap.size → w1.frozen? ⟨b, j, none⟩ = W.frozen? ⟨b, j, none⟩
theorem Spr.refl (W : World) (b lo : Nat) : Spr W W b lo := ⟨rfl, rfl, rfl, Nat.le_refl _, fun _ _ _ => rfl, fun _ _ _ => rfl, fun _ _ h => h, fun _ _ => rfl⟩
theorem Spr.of_below {W w1 : World} {b lo : Nat} (h : Below W.heap.size W w1) : Spr W w1 b lo :=
  ⟨h.os, h.tape, h.output, h.size, fun k hk _ => h.block k hk, fun j hb _ => h.cell (p := ⟨b, j, none⟩) hb, fun j hb hs => by rw [h.cell (p := ⟨b, j, none⟩) hb]; exact hs, fun j hb => h.frozen (p := ⟨b, j, none⟩) hb⟩
theorem Spr.trans {W w1 w2 : World} {b lo : Nat} (h : Spr W w1 b lo) (k : Spr w1 w2 b lo) : Spr W w2 b lo :=
  ⟨k.os.trans h.os, k.tape.trans h.tape, k.output.trans h.output, Nat.le_trans h.size k.size, fun i hi hn => (k.block i (Nat.lt_of_lt_of_le hi h.size) hn).trans (h.block i hi hn), fun j hb hj => (k.cell j (Nat.lt_of_lt_of_le hb h.size) hj).trans (h.cell j hb hj), fun j hb hs => k.there j (Nat.lt_of_lt_of_le hb h.size) (h.there j hb hs), fun j hb => (k.frozen j (Nat.lt_of_lt_of_le hb h.size)).trans (h.frozen j hb)⟩
theorem Spr.mono {W w1 : World} {b lo lo' : Nat} (h : Spr W w1 b lo) (hl : lo' ≤ lo) : Spr W w1 b lo' := ⟨h.os, h.tape, h.output, h.size, h.block, fun j hb hj => h.cell j hb (by omega), h.there, h.frozen⟩
/-- A change in a block that is new at W is none of W's. -/
theorem Spr.fresh {W w1 w2 : World} {b lo b' lo' : Nat} (h : Spr W w1 b lo) (k : Spr w1 w2 b' lo') (hb' : W.heap.size ≤ b') : Spr W w2 b lo := by
  have hblk : ∀ i, i < W.heap.size → w2.heap[i]? = w1.heap[i]? := fun i hi => k.block i (Nat.lt_of_lt_of_le hi h.size) (by omega)
  exact ⟨k.os.trans h.os, k.tape.trans h.tape, k.output.trans h.output, Nat.le_trans h.size k.size, fun i hi hn => (hblk i hi).trans (h.block i hi hn),
    fun j hb hj => (World.cell?_of_block (a := ⟨b, j, none⟩) (hblk b hb)).trans (h.cell j hb hj), fun j hb hs => by rw [World.cell?_of_block (a := ⟨b, j, none⟩) (hblk b hb)]; exact h.there j hb hs, fun j hb => (World.frozen?_of_block (a := ⟨b, j, none⟩) (hblk b hb)).trans (h.frozen j hb)⟩
theorem Spr.alloc (W : World) (b lo : Nat) (o : Obj) : Spr W (W.alloc o) b lo := Spr.of_below ((Below.refl _ _).alloc (Nat.le_refl _) _)
theorem Spr.set {W : World} {b lo i : Nat} (hi : lo ≤ i) (v : Value) : Spr W (W.setCell ⟨b, i, none⟩ v) b lo :=
  ⟨rfl, rfl, rfl, by simp, fun k hk hn => Below.heap_setCell _ _ _ _ hn, fun j hb hj => World.cell?_setCell_other _ _ _ _ (by simp <;> omega), fun j hb hs => by
    obtain ⟨x, hx⟩ := Option.isSome_iff_exists.1 hs
    obtain ⟨y, hy⟩ := cell?_setCell_some (p := ⟨b, i, none⟩) (x := v) hx
    rw [hy]; rfl, fun j hb => by simp⟩
/-- The block's cells, as they are behind such a change. -/
theorem Spr.below {W w1 : World} {b lo B : Nat} (h : Spr W w1 b lo) (hb : B ≤ b) (hB : B ≤ W.heap.size) : Below B W w1 := ⟨h.os, h.tape, h.output, h.size, fun k hk => h.block k (by omega) (by omega)⟩
theorem Spr.cr {W w1 : World} {b lo : Nat} (h : Spr W w1 b lo) {b' o n c : Nat} {f : Nat → Int} (hC : CR W b' o n c f) (hb : b' < W.heap.size) (hn : b' = b → o + n ≤ lo) : CR w1 b' o n c f := by
  refine ⟨hC.le, hC.max, fun j hj => ?_, fun j hj => ?_⟩
  · by_cases e : b' = b
    · subst e
      rw [h.cell (o + j) hb (by have := hn rfl; omega)]; exact hC.rd j hj
    · rw [World.cell?_of_block (a := ⟨b', o + j, none⟩) (h.block b' hb e)]; exact hC.rd j hj
  · by_cases e : b' = b
    · subst e
      exact ⟨h.there _ hb (hC.there j hj).1, (h.frozen _ hb).trans (hC.there j hj).2⟩
    · exact ⟨by rw [World.cell?_of_block (a := ⟨b', o + j, none⟩) (h.block b' hb e)]; exact (hC.there j hj).1, (World.frozen?_of_block (a := ⟨b', o + j, none⟩) (h.block b' hb e)).trans (hC.there j hj).2⟩
theorem CR.below {W w1 : World} {b o n c : Nat} {f : Nat → Int} (h : CR W b o n c f) (hb : b < W.heap.size) (hB : Below W.heap.size W w1) : CR w1 b o n c f := (Spr.of_below (b := b) (lo := o + n) hB).cr h hb fun _ => Nat.le_refl _
theorem CR.pre {W : World} {b o n c m : Nat} {f : Nat → Int} (h : CR W b o n c f) (hm : m ≤ n) : CR W b o m c f := ⟨Nat.le_trans hm h.le, h.max, fun j hj => h.rd j (by omega), h.there⟩
theorem CR.congr {W : World} {b o n c : Nat} {f g : Nat → Int} (h : CR W b o n c f) (e : ∀ j, j < n → f j = g j) : CR W b o n c g := ⟨h.le, h.max, fun j hj => by rw [← e j hj]; exact h.rd j hj, h.there⟩
theorem CR.lt {W : World} {b o n c : Nat} {f : Nat → Int} (h : CR W b o n c f) (hc : 0 < c) : b < W.heap.size := by
  obtain ⟨x, hx⟩ := Option.isSome_iff_exists.1 (h.there 0 hc).1
  exact World.block_lt_of_cell? W _ hx
/-- Out of an own row. -/
theorem Own.cr {W : World} {base : Nat} {v : Value} {xs : List Int} (h : Own W base v xs) (hn : 0 < xs.length) : ∃ g c, v = .slice (some ⟨g, 0, none⟩) xs.length c ∧ base ≤ g ∧ g < W.heap.size ∧ CR W g 0 xs.length c (fun j => xs.getD j 0) := by
  rcases h.2 with ⟨_, h0⟩ | ⟨g, cap, cur, rfl, hb, hh, hnc, hm, hs, ht⟩
  · omega
  · refine ⟨g, cap, rfl, hb, (Array.getElem?_eq_some_iff.1 hh).1, hnc, by simpa [maxLen] using hm, fun j hj => ?_, fun j hj => ?_⟩
    · have hown : W.ownsRow base 5 1 (.slice (some ⟨g, 0, none⟩) xs.length cap) xs.length (nums .u8 xs) := h
      rw [Nat.zero_add, hown.cellAt j (by omega)]
      simp [nums, List.getD_eq_getElem?_getD, List.getElem?_eq_getElem hj]
    · have hj' : j < cur.size := by omega
      exact ⟨by simp [World.cell?, hh, hj'], by simp [World.frozen?, hh]⟩
/-- append(s, y), y in a block of its own: behind 'at_builtin'. -/
theorem cr_append {W : World} {ops : Array Oper} {rest : List Oper} {o : Oper} {a : Act} {Q : Exit → Act → World → Prop} (hgd : o.guard = none) (s x : Operand)
    (ho : o.op = .call { callee := .builtin .append, args := #[s, x], argTypes := #[38, 38] })
    (b o' n c : Nat) (f : Nat → Int) (y : Int) (hs : a.eval s = .slice (some ⟨b, o', none⟩) n c) (hx : a.eval x = .slice (some ⟨W.heap.size, 0, none⟩) 1 1) (hC : CR W b o' n c f) (hb : b < W.heap.size) (hy : f n = y) (hn : n ≤ 1000000000000)
    (h : ∀ b1 o1 c1 w1, CR w1 b1 o1 (n + 1) c1 f → (b1 = b ∧ o1 = o' ∨ W.heap.size ≤ b1) → b1 < w1.heap.size → Spr W w1 b (o' + n) → wpList Tryd.prog ops Q rest (a.put o.dst (.slice (some ⟨b1, o1, none⟩) (n + 1) c1)) w1) :
    wpList Tryd.prog ops Q (o :: rest) a (W.alloc (.cells #[.int .u8 y] 5)) := by
  obtain ⟨i0, hi, hz0, hz1, hz2⟩ := info_parts u8_info
  have hba : Below W.heap.size W (W.alloc (.cells #[.int .u8 y] 5)) := (Below.refl _ _).alloc (Nat.le_refl _) _
  have hC' := hC.below hb hba
  have hbox : (W.alloc (.cells #[.int .u8 y] 5)).heap[W.heap.size]? = some (.cells #[.int .u8 y] 5 (0, 0)) := alloc_at _ _
  have hsz : (W.alloc (.cells #[.int .u8 y] 5)).heap.size = W.heap.size + 1 := by simp
  refine wpList_append_arg _ hgd s x 38 ho 5 i0 (.int .u8 0) 1 1 Tryd.underlying38 hi hz0 hz1 hz2 rfl (by decide) b o' n c ((List.range n).map fun j => .int .u8 (f j)) hs (by simp) (fun j u hu => ?_) ⟨W.heap.size, 0, none⟩ 1 1 [.int .u8 y] hx rfl (fun j u hu => ?_) (by simp [Value.oneCell']) (fun hr j hj => ?_) (by unfold maxLen; omega) (by omega) (fun hr => ?_) (fun hg v' w' ho' hgr => ?_)
  · simp only [List.getElem?_map] at hu
    obtain ⟨i, h1, rfl⟩ := Option.map_eq_some_iff.1 hu
    obtain ⟨h2, h3⟩ := List.getElem?_eq_some_iff.1 h1
    simp at h2 h3
    subst h3
    exact hC'.rd j h2
  · rcases j with _ | j
    · simp at hu; subst hu; rw [Addr.add_lit]; exact cell_blk hbox rfl
    · simp at hu
  · simp at hj; subst hj
    rw [Nat.mul_one, Nat.add_zero]
    exact hC'.there n (by omega)
  · rw [Nat.mul_one]
    have e : (W.alloc (.cells #[.int .u8 y] 5)).setCells b (o' + n) [.int .u8 y] = (W.alloc (.cells #[.int .u8 y] 5)).setCell ⟨b, o' + n, none⟩ (.int .u8 y) := rfl
    rw [e]
    have hsp : Spr (W.alloc (.cells #[.int .u8 y] 5)) _ b (o' + n) := Spr.set (Nat.le_refl _) (.int .u8 y)
    have hlt : b < (W.alloc (.cells #[.int .u8 y] 5)).heap.size := by omega
    refine h b o' c _ ⟨by omega, hC'.max, fun j hj => ?_, fun j hj => ⟨hsp.there _ hlt (hC'.there j hj).1, (hsp.frozen _ hlt).trans (hC'.there j hj).2⟩⟩ (.inl ⟨rfl, rfl⟩) (by simp; omega) ((Spr.alloc W b (o' + n) _).trans hsp)
    by_cases hjn : j = n
    · subst hjn
      obtain ⟨z, hz⟩ := Option.isSome_iff_exists.1 (hC'.there j (by omega)).1
      rw [World.cell?_setCell_same _ _ _ hz, hy]
    · rw [hsp.cell _ hlt (by omega)]
      exact hC'.rd j (by omega)
  · rcases ho'.2 with ⟨_, h0⟩ | ⟨g, cap, cur, rfl, hb', hh, hnc, hm, hs', ht⟩
    · omega
    · rw [hsz] at hb'
      have hsp : Spr (W.alloc (.cells #[.int .u8 y] 5)) w' b (o' + n) := Spr.of_below ⟨hgr.os, hgr.tape, hgr.output, hgr.size, fun k hk => hgr.block k hk (by simp)⟩
      refine h g 0 cap w' ⟨hnc, by simpa [maxLen] using hm, fun j hj => ?_, fun j hj => ?_⟩ (.inr (by omega)) (Array.getElem?_eq_some_iff.1 hh).1 ((Spr.alloc W b (o' + n) _).trans hsp)
      · rw [Nat.zero_add, ho'.cellAt j (by omega)]
        by_cases hjn : j = n
        · subst hjn
          rw [List.getElem?_append_right (by simp)]
          simp [hy]
        · rw [List.getElem?_append_left (by simp; omega)]
          simp [show j < n by omega]
      · have hj' : j < cur.size := by omega
        exact ⟨by simp [World.cell?, hh, hj'], by simp [World.frozen?, hh]⟩
end Go.Proofs.YtfddhipdedcacaaDoor
/-
  culvertlaw01.Apart: of rows in blocks of their own.
-/
namespace Go.Proofs.YtfddhipdedcacaaDoor
open Go.RowKit
set_option linter.unusedVariables false
set_option linter.unusedSimpArgs false
/-- The rows: row i lies in block b i. -/
structure Rws (W : World) (m L : Nat) (b o n c : Nat → Nat) (f : Nat → Nat → Int) : Prop where
  row : ∀ i, i < m → W.cell? ⟨L, i, none⟩ = some (.slice (some ⟨b i, o i, none⟩) (n i) (c i))
  cr : ∀ i, i < m → CR W (b i) (o i) (n i) (c i) (f i)
  lt : ∀ i, i < m → b i < W.heap.size
  sep : ∀ i j, i < m → j < m → i ≠ j → b i ≠ b j
  apart : ∀ i, i < m → b i ≠ L
theorem Rws.below {W W1 : World} {m L : Nat} {b o n c : Nat → Nat} {f : Nat → Nat → Int} (h : Rws W m L b o n c f) (hb : Below W.heap.size W W1) : Rws W1 m L b o n c f :=
  ⟨fun i hi => keepA hb (h.row i hi), fun i hi => (h.cr i hi).below (h.lt i hi) hb, fun i hi => Nat.lt_of_lt_of_le (h.lt i hi) hb.size, h.sep, h.apart⟩
theorem CR.set {W : World} {b o n c k : Nat} {f : Nat → Int} (h : CR W b o n c f) (hb : b < W.heap.size) (hk : k < n) (y : Int) : CR (W.setCell ⟨b, o + k, none⟩ (.int .u8 y)) b o n c (fun j => if j = k then y else f j) := by
  have hsp : Spr W (W.setCell ⟨b, o + k, none⟩ (.int .u8 y)) b 0 := Spr.set (Nat.zero_le _) _
  refine ⟨h.le, h.max, fun j hj => ?_, fun j hj => ⟨hsp.there _ hb (h.there j hj).1, (hsp.frozen _ hb).trans (h.there j hj).2⟩⟩
  by_cases e : j = k
  · subst e
    rw [if_pos rfl]
    exact World.cell?_setCell_same _ _ _ (h.rd j hj)
  · rw [if_neg e, World.cell?_setCell_other _ _ _ _ (by simp <;> omega)]
    exact h.rd j hj
theorem Rws.set {W : World} {m L i k : Nat} {b o n c : Nat → Nat} {f : Nat → Nat → Int} (h : Rws W m L b o n c f) (hi : i < m) (hk : k < n i) (y : Int) : Rws (W.setCell ⟨b i, o i + k, none⟩ (.int .u8 y)) m L b o n c (fun i' j => if i' = i ∧ j = k then y else f i' j) := by
  refine ⟨fun j hj => ?_, fun j hj => ?_, fun j hj => by simpa using h.lt j hj, h.sep, h.apart⟩
  · rw [World.cell?_setCell_other _ _ _ _ (by simp; intro e; exact absurd e (h.apart i hi))]; exact h.row j hj
  · by_cases e : j = i
    · subst e
      exact ((h.cr j hj).set (h.lt j hj) hk y).congr fun t ht => by simp
    · exact ((Spr.set (W := W) (b := b i) (lo := 0) (Nat.zero_le _) (.int .u8 y)).cr (h.cr j hj) (h.lt j hj) (fun e' => absurd e' (h.sep j i hj hi e))).congr fun t ht => by simp [e]
def p7 (i k : Nat) : Int := (7 * (i : Int) + k) % 256
def g11 (i k : Nat) : Int := (11 * (i : Int) + k + 3) % 256
/-- What the grown rows hold. -/
def qf (n : Nat → Nat) (i j : Nat) : Int := if j < n i then p7 i j else g11 i (j - n i)
/-- The first i grown rows, listed in block G. -/
structure Gs (W : World) (m L G i : Nat) (b n : Nat → Nat) : Prop where
  done : ∀ i', i' < i → ∃ bg og cg, W.cell? ⟨G, i', none⟩ = some (.slice (some ⟨bg, og, none⟩) (n i' + 40) cg) ∧ CR W bg og (n i' + 40) cg (qf n i') ∧ bg < W.heap.size ∧ bg ≠ G ∧ bg ≠ L ∧ ∀ j, i ≤ j → j < m → bg ≠ b j
  rest : ∀ i', i ≤ i' → i' < m → W.cell? ⟨G, i', none⟩ = some (.slice none 0 0)
  free : ∀ j, W.frozen? ⟨G, j, none⟩ = false
  lt : G < W.heap.size
theorem Gs.spr {W W1 : World} {m L G i lo : Nat} {b n : Nat → Nat} (h : Gs W m L G i b n) (hi : i < m) (hs : Spr W W1 (b i) lo) (hG : G ≠ b i) : Gs W1 m L G i b n := by
  have hc : ∀ j, W1.cell? ⟨G, j, none⟩ = W.cell? ⟨G, j, none⟩ := fun j => World.cell?_of_block (a := ⟨G, j, none⟩) (hs.block G h.lt hG)
  refine ⟨fun i' hi' => ?_, fun i' h1 h2 => (hc i').trans (h.rest i' h1 h2), fun j => (World.frozen?_of_block (a := ⟨G, j, none⟩) (hs.block G h.lt hG)).trans (h.free j), Nat.lt_of_lt_of_le h.lt hs.size⟩
  obtain ⟨bg, og, cg, h1, h2, h3, h4, h5, h6⟩ := h.done i' hi'
  exact ⟨bg, og, cg, (hc i').trans h1, hs.cr h2 h3 (fun e => absurd e (h6 i (Nat.le_refl _) hi)), Nat.lt_of_lt_of_le h3 hs.size, h4, h5, h6⟩
theorem Rws.spr {W W1 : World} {m L i : Nat} {b o n c : Nat → Nat} {f : Nat → Nat → Int} (h : Rws W m L b o n c f) (hi : i < m) (hs : Spr W W1 (b i) (o i + n i)) : Rws W1 m L b o n c f := by
  refine ⟨fun j hj => ?_, fun j hj => hs.cr (h.cr j hj) (h.lt j hj) (fun e => ?_), fun j hj => Nat.lt_of_lt_of_le (h.lt j hj) hs.size, h.sep, h.apart⟩
  · rw [World.cell?_of_block (a := ⟨L, j, none⟩) (hs.block L (World.block_lt_of_cell? W _ (h.row j hj)) (Ne.symm (h.apart i hi)))]
    exact h.row j hj
  · by_cases e' : j = i
    · rw [e']; exact Nat.le_refl _
    · exact absurd e (h.sep j i hj hi e')
/-- One more. -/
theorem Gs.put {W : World} {m L G i bg og cg : Nat} {b n : Nat → Nat} (h : Gs W m L G i b n) (hi : i < m) (hC : CR W bg og (n i + 40) cg (qf n i)) (hl : bg < W.heap.size) (hG : bg ≠ G) (hL : bg ≠ L) (hb : ∀ j, i + 1 ≤ j → j < m → bg ≠ b j) :
    Gs (W.setCell ⟨G, i, none⟩ (.slice (some ⟨bg, og, none⟩) (n i + 40) cg)) m L G (i + 1) b n := by
  have hs : Spr W (W.setCell ⟨G, i, none⟩ (.slice (some ⟨bg, og, none⟩) (n i + 40) cg)) G 0 := Spr.set (Nat.zero_le _) _
  have ho : ∀ j, j ≠ i → (W.setCell ⟨G, i, none⟩ (.slice (some ⟨bg, og, none⟩) (n i + 40) cg)).cell? ⟨G, j, none⟩ = W.cell? ⟨G, j, none⟩ := fun j hj => World.cell?_setCell_other _ _ _ _ (by simp <;> omega)
  refine ⟨fun i' hi' => ?_, fun i' h1 h2 => (ho i' (by omega)).trans (h.rest i' (by omega) h2), fun j => by simpa using h.free j, by simpa using h.lt⟩
  by_cases e : i' = i
  · subst e
    exact ⟨bg, og, cg, World.cell?_setCell_same _ _ _ (h.rest i' (Nat.le_refl _) hi), hs.cr hC hl (fun e => absurd e hG), by simpa using hl, hG, hL, hb⟩
  · obtain ⟨bg', og', cg', h1, h2, h3, h4, h5, h6⟩ := h.done i' (by omega)
    exact ⟨bg', og', cg', (ho i' e).trans h1, hs.cr h2 h3 (fun e => absurd e h4), by simpa using h3, h4, h5, fun j h7 h8 => h6 j (by omega) h8⟩
theorem Rws.other {W : World} {m L G j : Nat} {b o n c : Nat → Nat} {f : Nat → Nat → Int} (h : Rws W m L b o n c f) (hL : L ≠ G) (hG : ∀ i, i < m → b i ≠ G) (v : Value) : Rws (W.setCell ⟨G, j, none⟩ v) m L b o n c f :=
  ⟨fun i hi => by rw [World.cell?_setCell_other _ _ _ _ (by first | (simp [hL]; done) | (simp; intro e; exact absurd e hL) | (simp; intro e; exact absurd e.symm hL))]; exact h.row i hi, fun i hi => (Spr.set (W := W) (b := G) (lo := 0) (Nat.zero_le _) v).cr (h.cr i hi) (h.lt i hi) (fun e => absurd e (hG i hi)), fun i hi => by simpa using h.lt i hi, h.sep, h.apart⟩
theorem Gs.start {W : World} {m L G : Nat} {b n : Nat → Nat} (h : W.heap[G]? = some (.cells (madeCells #[.slice none 0 0] m) 38 (0, 0))) : Gs W m L G 0 b n :=
  ⟨fun i' h => absurd h (by omega), fun i' _ hi => cell_blk h (by simp [madeCells, hi, Nat.mod_one]), fun j => free_blk h, (Array.getElem?_eq_some_iff.1 h).1⟩
theorem Gs.below {W W1 : World} {m L G i : Nat} {b n : Nat → Nat} (h : Gs W m L G i b n) (hb : Below W.heap.size W W1) : Gs W1 m L G i b n := by
  have hc : ∀ j, W1.cell? ⟨G, j, none⟩ = W.cell? ⟨G, j, none⟩ := fun j => World.cell?_of_block (a := ⟨G, j, none⟩) (hb.block G h.lt)
  refine ⟨fun i' hi' => ?_, fun i' h1 h2 => (hc i').trans (h.rest i' h1 h2), fun j => (World.frozen?_of_block (a := ⟨G, j, none⟩) (hb.block G h.lt)).trans (h.free j), Nat.lt_of_lt_of_le h.lt hb.size⟩
  obtain ⟨bg, og, cg, h1, h2, h3, h4, h5, h6⟩ := h.done i' hi'
  exact ⟨bg, og, cg, (hc i').trans h1, h2.below h3 hb, Nat.lt_of_lt_of_le h3 hb.size, h4, h5, h6⟩
set_option maxRecDepth 100000 in
set_option maxHeartbeats 4000000 in
theorem apart_any {w : World} (m L base : Nat) (b o n c : Nat → Nat) (f : Nat → Nat → Int) (hR : Rws w m L b o n c f) (hm : m ≤ 100) (hn : ∀ i, i < m → n i ≤ 4294967296) (hb : ∀ i, i < m → base ≤ b i) (hw : base ≤ w.heap.size) :
    Calls Tryd.prog 29 #[.slice (some ⟨L, 0, none⟩) m m] w fun e w' => e = .returned (.bool true) ∧ Below base w w' := by
  have hmk := run_make_row' (P := Tryd.prog) 50 38 (.slice none 0 0) 24 Tryd.underlying50 (by kernel_rfl) rfl .i64 .i64 m (by omega) (by omega) w
  have HR := Lib.hid hR
  have HN := Lib.hid hn
  have HBB := Lib.hid hb
  clear hR hn hb
  go_enter Tryd.func29, Tryd.ntmps29
  go_wp2_with fail
  clear hmk
  obtain ⟨w0, hw0⟩ : ∃ w0, w0 = w.alloc (.cells (madeCells #[.slice none 0 0] m) 38) := ⟨_, rfl⟩
  have hb0 : Below w.heap.size w w0 := by rw [hw0]; exact (Below.refl _ _).alloc (Nat.le_refl _) _
  have hg0 : w0.heap[w.heap.size]? = some (.cells (madeCells #[.slice none 0 0] m) 38 (0, 0)) := by rw [hw0]; exact alloc_at _ _
  have HR0 := Lib.hid (HR.out.below hb0)
  have HG0 := Lib.hid hg0
  have HB0 := Lib.hid hb0
  rw [← hw0]
  clear hw0 hb0 hg0
  go_loopw [4] (fun ii wr => ∃ (i : Nat) (f : Nat → Nat → Int), ii = .int .i64 i ∧ i ≤ m ∧ Hid (Rws wr m L b o n c f) ∧ Hid (∀ i' j, i' < i → j < n i' → f i' j = p7 i' j) ∧ Hid (wr.heap[w.heap.size]? = some (.cells (madeCells #[.slice none 0 0] m) 38 (0, 0))) ∧ Hid (Below base w wr)) (fun ii _ => m - (intOf ii).toNat)
  case atStart => exact ⟨0, f, rfl, by omega, HR0, Lib.hid (fun i' j h => absurd h (by omega)), HG0, Lib.hid (HB0.out.mono hw)⟩
  case round =>
    obtain ⟨i, f, rfl, hi, HRr, HP, HG, HB⟩ := hrel
    by_cases hlt : i < m
    · have hd1 : decide ((i : Int) < m) = true := by simp; omega
      have hk0 : (0 : Int) ≤ (i : Int) := by omega
      have hk1 : (i : Int) < (m : Int) := by omega
      have hni := HN.out i hlt
      have hci := (HRr.out.cr i hlt).le
      have hcm := (HRr.out.cr i hlt).max
      go_wp2_with fail
      go_loopw [5] (fun kk wk => ∃ (k : Nat) (f : Nat → Nat → Int), kk = .int .i64 k ∧ k ≤ n i ∧ Hid (Rws wk m L b o n c f) ∧ Hid (∀ i' j, i' < i → j < n i' → f i' j = p7 i' j) ∧ Hid (∀ t, t < k → f i t = p7 i t) ∧ Hid (wk.heap[w.heap.size]? = some (.cells (madeCells #[.slice none 0 0] m) 38 (0, 0))) ∧ Hid (Below base w wk)) (fun kk _ => n i - (intOf kk).toNat)
      case atStart => exact ⟨0, f, rfl, by omega, HRr, HP, Lib.hid (fun t h => absurd h (by omega)), HG, HB⟩
      case round =>
        obtain ⟨k, f, rfl, hk, HRk, HPk, HQk, HGk, HBk⟩ := hrel
        have hrow := HRk.out.row i hlt
        by_cases hkn : k < n i
        · have hd2 : decide ((k : Int) < n i) = true := by simp; omega
          have hj0 : (0 : Int) ≤ (k : Int) := by omega
          have hj1 : (k : Int) < (n i : Int) := by omega
          have hcell := (HRk.out.cr i hlt).rd k hkn
          have hfr := ((HRk.out.cr i hlt).there k (by omega)).2
          have hw1 : IntKind.i64.wrap (7 * (i : Int)) = 7 * i := by rw [IntKind.wrap_i64]; omega
          have hw2 : IntKind.i64.wrap (7 * (i : Int) + k) = 7 * i + k := by rw [IntKind.wrap_i64]; omega
          go_wp2_with fail
          go_roundw
          case rel =>
            refine ⟨k + 1, fun i' j => if i' = i ∧ j = k then p7 i k else f i' j, by go_num, by omega, Lib.hid (HRk.out.set hlt hkn (p7 i k)), Lib.hid (fun i' j h1 h2 => ?_), Lib.hid (fun t ht => ?_), Lib.hid ?_, Lib.hid (HBk.out.setCell (HBB.out i hlt) _)⟩
            · show (if i' = i ∧ j = k then p7 i k else f i' j) = p7 i' j
              rw [if_neg (by omega)]; exact HPk.out i' j h1 h2
            · show (if i = i ∧ t = k then p7 i k else f i t) = p7 i t
              by_cases e : t = k
              · rw [if_pos ⟨rfl, e⟩, e]
              · rw [if_neg (by simp [e])]; exact HQk.out t (by omega)
            · rw [Below.heap_setCell _ _ _ _ (by have := HR.out.lt i hlt; simp; omega)]
              exact HGk.out
          case measure => simp [intOf]; omega
        · obtain rfl : k = n i := by omega
          have hd2 : decide (((n i : Nat) : Int) < n i) = false := by simp
          go_wp2_with fail
          go_roundw
          case rel =>
            refine ⟨i + 1, f, by go_num, by omega, HRk, Lib.hid (fun i' j h1 h2 => ?_), HGk, HBk⟩
            by_cases e : i' = i
            · subst e; exact HQk.out j h2
            · exact HPk.out i' j (by omega) h2
          case measure => simp [intOf]; omega
    · obtain rfl : m = i := by omega
      have hd1 : decide ((m : Int) < m) = false := by simp
      have HR7 := Lib.hid (show Rws wr m L b o n c p7 from ⟨HRr.out.row, fun j hj => (HRr.out.cr j hj).congr fun t ht => HP.out j t hj ht, HRr.out.lt, HRr.out.sep, HRr.out.apart⟩)
      clear HRr HP
      go_wp2_with fail
      have HS0 := Lib.hid (Gs.start (L := L) (b := b) (n := n) HG.out)
      have hLG : ∀ j, j < m → L ≠ w.heap.size := fun j hj => by have := World.block_lt_of_cell? w _ (HR.out.row j hj); simp at this; omega
      have HLG := Lib.hid hLG
      have HBG := Lib.hid (show ∀ j, j < m → b j ≠ w.heap.size from fun j hj => by have := HR.out.lt j hj; omega)
      clear HG hLG hd1 hlt hi
      go_loopw [6] (fun ii ws => ∃ i : Nat, ii = .int .i64 i ∧ i ≤ m ∧ Hid (Rws ws m L b o n c p7) ∧ Hid (Gs ws m L w.heap.size i b n) ∧ Hid (Below base w ws)) (fun ii _ => m - (intOf ii).toNat)
      case atStart => exact ⟨0, rfl, by omega, HR7, HS0, HB⟩
      case round =>
        obtain ⟨i, rfl, hi, HRi, HGi, HBi⟩ := hrel
        by_cases hlt : i < m
        · have hd1 : decide ((i : Int) < m) = true := by simp; omega
          have hk0 : (0 : Int) ≤ (i : Int) := by omega
          have hk1 : (i : Int) < (m : Int) := by omega
          have hrow := HRi.out.row i hlt
          have hni := HN.out i hlt
          go_wp2_with fail
          rename World => wi
          go_loopw [7, 8] (fun gg kk wk => ∃ (k b1 o1 c1 : Nat), gg = .slice (some ⟨b1, o1, none⟩) (n i + k) c1 ∧ kk = .int .i64 k ∧ k ≤ 40 ∧ Hid (CR wk b1 o1 (n i + k) c1 (qf n i)) ∧ Hid (b1 = b i ∧ o1 = o i ∨ wi.heap.size ≤ b1) ∧ Hid (b1 < wk.heap.size) ∧ Hid (Spr wi wk (b i) (o i + n i))) (fun _ kk _ => 40 - (intOf kk).toNat)
          case atStart => exact ⟨0, b i, o i, c i, rfl, rfl, by omega, Lib.hid ((HRi.out.cr i hlt).congr fun j hj => by unfold qf; rw [if_pos hj]), Lib.hid (.inl ⟨rfl, rfl⟩), Lib.hid (HRi.out.lt i hlt), Lib.hid (Spr.refl _ _ _)⟩
          case round =>
            obtain ⟨k, b1, o1, c1, rfl, rfl, hk, HC, HW, HLT, HSP⟩ := hrel
            by_cases hk40 : k < 40
            · have hd2 : decide ((k : Int) < 40) = true := by simp; omega
              have hw1 : IntKind.i64.wrap (11 * (i : Int)) = 11 * i := by rw [IntKind.wrap_i64]; omega
              have hw2 : IntKind.i64.wrap (11 * (i : Int) + k) = 11 * i + k := by rw [IntKind.wrap_i64]; omega
              have hw3 : IntKind.i64.wrap (11 * (i : Int) + k + 3) = 11 * i + k + 3 := by rw [IntKind.wrap_i64]; omega
              go_wp2_with (at_builtin; go_loud (refine cr_append rfl _ _ rfl b1 o1 (n i + k) c1 (qf n i) ((11 * (i : Int) + k + 3) % 256) rfl rfl HC.out HLT.out (by unfold qf g11; rw [if_neg (by omega), Nat.add_sub_cancel_left]) (by omega) ?_; intro b2 o2 c2 w2 hC2 hw2' hlt2 hsp2; have HC2 := Lib.hid hC2; have HLT2 := Lib.hid hlt2; have HW2 := Lib.hid hw2'; have HSP2 := Lib.hid hsp2; clear hC2 hw2' hlt2 hsp2))
              go_roundw
              case rel =>
                refine ⟨k + 1, b2, o2, c2, by rw [Nat.add_assoc], by go_num, by omega, Lib.hid (by rw [← Nat.add_assoc]; exact HC2.out), Lib.hid ?_, HLT2, Lib.hid ?_⟩
                · rcases HW2.out with ⟨e1, e2⟩ | e1
                  · rcases HW.out with ⟨e3, e4⟩ | e3
                    · exact .inl ⟨e1.trans e3, e2.trans e4⟩
                    · exact .inr (by omega)
                  · exact .inr (Nat.le_trans HSP.out.size e1)
                · rcases HW.out with ⟨e3, e4⟩ | e3
                  · subst e3 e4
                    exact HSP.out.trans (HSP2.out.mono (by omega))
                  · exact HSP.out.fresh HSP2.out e3
              case measure => simp [intOf]; omega
            · obtain rfl : k = 40 := by omega
              have hd2 : decide (((40 : Nat) : Int) < 40) = false := by decide
              have HRk := Lib.hid (HRi.out.spr hlt HSP.out)
              have HGk := Lib.hid (HGi.out.spr hlt HSP.out (Ne.symm (HBG.out i hlt)))
              have hgc := HGk.out.rest i (Nat.le_refl _) hlt
              have hgf := HGk.out.free i
              go_wp2_with fail
              go_roundw
              case rel =>
                have hLi : L < wi.heap.size := World.block_lt_of_cell? wi _ hrow
                have hb1 : ∀ j, j < m → j ≠ i → b1 ≠ b j := fun j hj hji => by
                  rcases HW.out with ⟨e, _⟩ | e
                  · rw [e]; exact HRi.out.sep i j hlt hj (Ne.symm hji)
                  · have := HRi.out.lt j hj; omega
                refine ⟨i + 1, by go_num, by omega, Lib.hid (HRk.out.other (HLG.out i hlt) HBG.out _), Lib.hid (HGk.out.put hlt HC.out HLT.out ?_ ?_ (fun j h1 h2 => hb1 j h2 (by omega))), Lib.hid ((HBi.out.trans (HSP.out.below (HBB.out i hlt) (Nat.le_trans hw ?_))).setCell hw _)⟩
                · rcases HW.out with ⟨e, _⟩ | e
                  · rw [e]; exact HBG.out i hlt
                  · have := HGi.out.lt; omega
                · rcases HW.out with ⟨e, _⟩ | e
                  · rw [e]; exact HRi.out.apart i hlt
                  · omega
                · exact HBi.out.size
              case measure => simp [intOf]; omega
        · obtain rfl : m = i := by omega
          have hd1 : decide ((m : Int) < m) = false := by simp
          go_wp2_with fail
          go_loopw [9] (fun ii wt => ∃ i : Nat, ii = .int .i64 i ∧ i ≤ m ∧ Hid (Rws wt m L b o n c p7) ∧ Hid (Gs wt m L w.heap.size m b n) ∧ Hid (Below base w wt)) (fun ii _ => m - (intOf ii).toNat)
          case atStart => exact ⟨0, rfl, by omega, HRi, HGi, HBi⟩
          case round =>
            obtain ⟨i, rfl, hi, HRt, HGt, HBt⟩ := hrel
            by_cases hlt : i < m
            · have hd3 : decide ((i : Int) < m) = true := by simp; omega
              have hk0 : (0 : Int) ≤ (i : Int) := by omega
              have hk1 : (i : Int) < (m : Int) := by omega
              have hni := HN.out i hlt
              go_wp2_with fail
              go_loopw [10] (fun kk wk => ∃ k : Nat, kk = .int .i64 k ∧ k ≤ n i ∧ Hid (Rws wk m L b o n c p7) ∧ Hid (Gs wk m L w.heap.size m b n) ∧ Hid (Below base w wk)) (fun kk _ => n i - (intOf kk).toNat)
              case atStart => exact ⟨0, rfl, by omega, HRt, HGt, HBt⟩
              case round =>
                obtain ⟨k, rfl, hk, HRk, HGk, HBk⟩ := hrel
                have hrow := HRk.out.row i hlt
                by_cases hkn : k < n i
                · have hd2 : decide ((k : Int) < n i) = true := by simp; omega
                  have hj0 : (0 : Int) ≤ (k : Int) := by omega
                  have hj1 : (k : Int) < (n i : Int) := by omega
                  have hcell := (HRk.out.cr i hlt).rd k hkn
                  have hw1 : IntKind.i64.wrap (7 * (i : Int)) = 7 * i := by rw [IntKind.wrap_i64]; omega
                  have hw2 : IntKind.i64.wrap (7 * (i : Int) + k) = 7 * i + k := by rw [IntKind.wrap_i64]; omega
                  have hp : p7 i k = (7 * (i : Int) + k) % 256 := rfl
                  rw [hp] at hcell
                  go_wp2_with fail
                  go_roundw
                  case rel => exact ⟨k + 1, by go_num, by omega, HRk, HGk, HBk⟩
                  case measure => simp [intOf]; omega
                · obtain rfl : k = n i := by omega
                  have hd2 : decide (((n i : Nat) : Int) < n i) = false := by simp
                  go_wp2_with fail
                  go_loopw [11] (fun kk wk => ∃ k : Nat, kk = .int .i64 k ∧ k ≤ 40 ∧ Hid (Rws wk m L b o n c p7) ∧ Hid (Gs wk m L w.heap.size m b n) ∧ Hid (Below base w wk)) (fun kk _ => 40 - (intOf kk).toNat)
                  case atStart => exact ⟨0, rfl, by omega, HRk, HGk, HBk⟩
                  case round =>
                    clear hrow HRk HGk HBk
                    obtain ⟨k, rfl, hk, HRk, HGk, HBk⟩ := hrel
                    by_cases hk40 : k < 40
                    · have hd4 : decide ((k : Int) < 40) = true := by simp; omega
                      have hrow := HRk.out.row i hlt
                      obtain ⟨bg, og, cg, hg1, hg2, -, -, -, -⟩ := HGk.out.done i hlt
                      have hw1 : IntKind.i64.wrap (11 * (i : Int)) = 11 * i := by rw [IntKind.wrap_i64]; omega
                      have hw2 : IntKind.i64.wrap (11 * (i : Int) + k) = 11 * i + k := by rw [IntKind.wrap_i64]; omega
                      have hw3 : IntKind.i64.wrap (11 * (i : Int) + k + 3) = 11 * i + k + 3 := by rw [IntKind.wrap_i64]; omega
                      have hw4 : IntKind.i64.wrap ((n i : Int) + k) = n i + k := by rw [IntKind.wrap_i64]; omega
                      have hcell := hg2.rd (n i + k) (by omega)
                      have hp : qf n i (n i + k) = (11 * (i : Int) + k + 3) % 256 := by unfold qf g11; rw [if_neg (by omega), Nat.add_sub_cancel_left]
                      rw [hp] at hcell
                      clear hp hg2
                      have hj0 : (0 : Int) ≤ (n i : Int) + k := by omega
                      have hj1 : (n i : Int) + k < ((n i + 40 : Nat) : Int) := by omega
                      have hj2 : ((n i : Int) + k).toNat = n i + k := by omega
                      go_wp2_with fail
                      go_quiet (fail)
                      go_wp2_with fail
                      go_roundw
                      case rel => exact ⟨k + 1, by go_num, by omega, Lib.hid (HRk.out.below (below_drewN (Below.refl _ _) _)), Lib.hid (HGk.out.below (below_drewN (Below.refl _ _) _)), Lib.hid (below_drewN HBk.out _)⟩
                      case measure => simp [intOf]; omega
                    · obtain rfl : k = 40 := by omega
                      have hd4 : decide (((40 : Nat) : Int) < 40) = false := by decide
                      go_wp2_with fail
                      go_roundw
                      case rel => exact ⟨i + 1, by go_num, by omega, HRk, HGk, HBk⟩
                      case measure => simp [intOf]; omega
            · obtain rfl : m = i := by omega
              have hd3 : decide ((m : Int) < m) = false := by simp
              go_wp2_with fail
              go_ret
              exact ⟨rfl, HBt.out⟩
end Go.Proofs.YtfddhipdedcacaaDoor
/-
  A list of frames of the call's own, each payload a row of its own in a block of its own.
-/
namespace Go.Proofs.YtfddhipdedcacaaDoor
open Go.RowKit Go.Proofs.YtfddhipdedcacaaDoorW.PrintWords Go.Proofs.YtfddhipdedcacaaDoor.PFeedPieces
set_option linter.unusedVariables false
set_option linter.unusedSimpArgs false
/-- A frame's cells, its payload's slice being d. -/
abbrev frd (x : Fr) (d : Value) : Array Value := #[.int .u8 x.f0.f0, .int .u8 x.f0.f1, .int .u16 x.f0.f2, .int .u32 x.f0.f3, .int .u32 x.f0.f4, d]
def cellsOf (q : Fr × Value) : List Value := (frd q.1 q.2).toList
/-- The payloads: rows of the call's own in blocks of their own. -/
structure FrD (W : World) (base : Nat) (ok : Nat → Prop) (ps : List (Fr × Value)) : Prop where
  own : ∀ q ∈ ps, Own W base q.2 q.1.f1
  ok : ∀ q ∈ ps, ∀ k, q.2.ownBlock = some k → ok k
  byt : ∀ q ∈ ps, ∀ x ∈ q.1.f1, 0 ≤ x ∧ x ≤ 255
  sep : ps.Pairwise (fun q r => ∀ k, q.2.ownBlock = some k → r.2.ownBlock ≠ some k)
theorem FrD.nil (W : World) (base : Nat) (ok : Nat → Prop) : FrD W base ok [] := ⟨fun q hq => (by cases hq), fun q hq => (by cases hq), fun q hq => (by cases hq), List.Pairwise.nil⟩
theorem FrD.step {W W1 : World} {base : Nat} {ok : Nat → Prop} {ps : List (Fr × Value)} (h : FrD W base ok ps) (hm : ∀ k, ok k → k < W.heap.size → W1.heap[k]? = W.heap[k]?) : FrD W1 base ok ps :=
  ⟨fun q hq => (h.own q hq).keep fun k hk => hm k (h.ok q hq k hk) ((h.own q hq).blk k hk).2, h.ok, h.byt, h.sep⟩
theorem FrD.mono {W : World} {base : Nat} {ok ok' : Nat → Prop} {ps : List (Fr × Value)} (h : FrD W base ok ps) (hk : ∀ k, ok k → ok' k) : FrD W base ok' ps := ⟨h.own, fun q hq k e => hk k (h.ok q hq k e), h.byt, h.sep⟩
theorem FrD.bound {W : World} {base : Nat} {ok : Nat → Prop} {ps : List (Fr × Value)} (h : FrD W base ok ps) : FrD W base (fun k => ok k ∧ k < W.heap.size) ps := ⟨h.own, fun q hq k e => ⟨h.ok q hq k e, ((h.own q hq).blk k e).2⟩, h.byt, h.sep⟩
theorem FrD.lower {W : World} {base b' : Nat} {ok : Nat → Prop} {ps : List (Fr × Value)} (h : FrD W base ok ps) (hb : b' ≤ base) : FrD W b' ok ps := ⟨fun q hq => (h.own q hq).lower hb, h.ok, h.byt, h.sep⟩
/-- Bytes' blocks are no blocks of other types. -/
theorem FrD.typed {W : World} {base : Nat} {ok : Nat → Prop} {ps : List (Fr × Value)} (h : FrD W base ok ps) {g : Nat} {cs : Array Value} {t : TypeId} (hg : W.heap[g]? = some (.cells cs t (0, 0))) (ht : t ≠ 5) : FrD W base (fun k => ok k ∧ k ≠ g) ps :=
  ⟨h.own, fun q hq k e => ⟨h.ok q hq k e, fun e' => by
    subst e'
    obtain ⟨cs', hc⟩ := own_typed (h.own q hq) k e
    rw [hg] at hc
    simp only [Option.some.injEq, Obj.cells.injEq] at hc
    exact ht hc.2.1⟩, h.byt, h.sep⟩
theorem FrD.add {W : World} {base N : Nat} {ok : Nat → Prop} {ps ns : List (Fr × Value)} (h : FrD W base (fun k => ok k ∧ k < N) ps) (h2 : FrD W base (fun k => ok k ∧ N ≤ k) ns) : FrD W base ok (ps ++ ns) := by
  refine ⟨fun q hq => ?_, fun q hq => ?_, fun q hq => ?_, List.pairwise_append.2 ⟨h.sep, h2.sep, fun a ha b hb k e e' => ?_⟩⟩
  · rcases List.mem_append.1 hq with hq | hq
    · exact h.own q hq
    · exact h2.own q hq
  · rcases List.mem_append.1 hq with hq | hq
    · exact fun k e => (h.ok q hq k e).1
    · exact fun k e => (h2.ok q hq k e).1
  · rcases List.mem_append.1 hq with hq | hq
    · exact h.byt q hq
    · exact h2.byt q hq
  · have h1 := (h.ok a ha k e).2
    have h3 := (h2.ok b hb k e').2
    omega
/-- A list of frames of the call's own, each payload a row of its own. -/
def NO (W : World) (base : Nat) (ok : Nat → Prop) (u : Value) (fs : List Fr) : Prop := ∃ ps, ps.map Prod.fst = fs ∧ Kd.N (Kd.raw 6) 45 W base ok u (ps.map cellsOf) ∧ FrD W base ok ps
theorem NO_nil (W : World) (base : Nat) (ok : Nat → Prop) : NO W base ok (.slice none 0 0) [] := ⟨[], rfl, Kd.N_nil _ _ _ _ _, FrD.nil _ _ _⟩
section
variable {W W1 : World} {base : Nat} {ok ok' : Nat → Prop} {u : Value} {fs : List Fr}
theorem NO_mono (h : NO W base ok u fs) (hk : ∀ k, ok k → ok' k) : NO W base ok' u fs := by
  obtain ⟨ps, e, h1, h2⟩ := h
  exact ⟨ps, e, Kd.N_mono h1 hk, h2.mono hk⟩
theorem NO_step (h : NO W base ok u fs) (hm : ∀ k, ok k → k < W.heap.size → W1.heap[k]? = W.heap[k]?) : NO W1 base ok u fs := by
  obtain ⟨ps, e, h1, h2⟩ := h
  exact ⟨ps, e, Kd.N_step h1 hm, h2.step hm⟩
theorem NO_below (h : NO W base ok u fs) (hb : Below W.heap.size W W1) : NO W1 base ok u fs := NO_step h fun k _ hk => hb.block k hk
theorem NO_bound (h : NO W base ok u fs) : NO W base (fun k => ok k ∧ k < W.heap.size) u fs := by
  obtain ⟨ps, e, h1, h2⟩ := h
  exact ⟨ps, e, Kd.N_bound h1, h2.bound⟩
theorem NO_lower {b' : Nat} (h : NO W base ok u fs) (hb : b' ≤ base) : NO W b' ok u fs := by
  obtain ⟨ps, e, h1, h2⟩ := h
  exact ⟨ps, e, Kd.N_lower h1 hb, h2.lower hb⟩
theorem NO_lt (h : NO W base ok u fs) : ∀ k, u.ownBlock = some k → k < W.heap.size := by
  obtain ⟨ps, e, h1, h2⟩ := h
  exact Kd.N_lt h1
/-- The payloads' blocks are not the list's. -/
theorem FrD.away {ps : List (Fr × Value)} {rows : List (List Value)} {okN : Nat → Prop} (h : FrD W base ok ps) {b' : Nat} (hN : Kd.N (Kd.raw 6) 45 W b' okN u rows) : FrD W base (fun k => ok k ∧ some k ≠ u.ownBlock) ps := by
  cases hu : u.ownBlock with
  | none => exact h.mono fun k hk => ⟨hk, by simp⟩
  | some g =>
    obtain ⟨cs, hc⟩ := Kd.N_typed hN g hu
    exact (h.typed hc (by decide)).mono fun k hk => ⟨hk.1, fun e => hk.2 (Option.some.inj e)⟩
/-- As it is read. -/
theorem NO_N (h : NO W base ok u fs) : Kd.N kFr 45 W base ok u fs := by
  obtain ⟨ps, rfl, hN, h2⟩ := h
  have hA := h2.away hN
  obtain ⟨h0, rows, hl, hR, hf⟩ := hN
  refine ⟨h0, rows, by simpa using hl, hR, fun j x c hx hc => ?_⟩
  simp only [List.getElem?_map] at hx
  obtain ⟨q, hq, rfl⟩ := Option.map_eq_some_iff.1 hx
  have hc2 := (Kd.FK_now (hf j (cellsOf q) c (by simp [hq]) hc)).1
  subst hc2
  have hm := List.mem_of_getElem? hq
  obtain ⟨p, d⟩ := q
  obtain ⟨A, cc, e, hF⟩ := Own.fbs (hA.own _ hm) (hA.byt _ hm)
  simp only at e
  subst e
  refine Kd.FK_mono (fr_mkF p hF.now.cap hF.F) fun k hk => hA.ok _ hm k hk.symm
end
theorem cells_raw {W : World} {ok : Nat → Prop} (p : Fr) {base : Nat} {d : Value} {xs : List Int} (h : Own W base d xs) : Kd.FK (Kd.raw 6) W ok (cellsOf (p, d)) (cellsOf (p, d)) := fun W' _ => by
  refine ⟨rfl, rfl, fun u hu => ?_⟩
  simp only [cellsOf, List.mem_cons, List.not_mem_nil, or_false] at hu
  rcases hu with rfl | rfl | rfl | rfl | rfl | rfl
  · rfl
  · rfl
  · rfl
  · rfl
  · rfl
  · rcases h.2 with ⟨rfl, _⟩ | ⟨g, cap, cur, rfl, _⟩ <;> rfl
/-- Behind an append of a frame. -/
theorem no_appended {w0 W6 W w1 : World} {u v1 : Value} {ps : List (Fr × Value)} {p : Fr} {d : Value} {ok : Nat → Prop} (hD : Own W W6.heap.size d p.f1) (hx : ∀ x ∈ p.f1, 0 ≤ x ∧ x ≤ 255) (hok : ∀ k, W6.heap.size ≤ k → ok k) (hb6 : w0.heap.size ≤ W6.heap.size) (hN : Kd.N (Kd.raw 6) 45 W6 w0.heap.size ok u (ps.map cellsOf)) (hF : FrD W6 w0.heap.size ok ps) (HW : Below W6.heap.size W6 W)
    (h1 : Kd.N (Kd.raw 6) 45 w1 w0.heap.size ok v1 (ps.map cellsOf ++ [cellsOf (p, d)])) (hg : W.grownBy w1 u.ownBlock) : NO w1 w0.heap.size ok v1 (ps.map Prod.fst ++ [p]) := by
  have hNW := Kd.N_below hN HW
  have hF1 : FrD W w0.heap.size (fun k => ok k ∧ k < W6.heap.size) ps := (hF.bound).step fun k hk _ => HW.block k hk.2
  have hF2 : FrD W w0.heap.size (fun k => ok k ∧ W6.heap.size ≤ k) [(p, d)] := by
    refine ⟨fun q hq => ?_, fun q hq k e => ?_, fun q hq => ?_, List.pairwise_singleton _ _⟩
    · rw [List.mem_singleton.1 hq]; exact hD.lower hb6
    · rw [List.mem_singleton.1 hq] at e
      exact ⟨hok k (hD.blk k e).1, (hD.blk k e).1⟩
    · rw [List.mem_singleton.1 hq]; exact hx
  have hF3 := (hF1.add hF2).away hNW
  refine ⟨ps ++ [(p, d)], by simp, by rw [List.map_append]; exact h1, (hF3.step fun k hk hlt => hg.block k hlt hk.2).mono fun k hk => hk.1⟩
/-- append(u, a frame), behind 'at_builtin'. -/
theorem no_append {w0 W6 W : World} {ops : Array Oper} {rest : List Oper} {o : Oper} {a : Act} {Q : Exit → Act → World → Prop} (hgd : o.guard = none) (s x : Operand)
    (ho : o.op = .call { callee := .builtin .append, args := #[s, x], argTypes := #[56, 56] })
    (u : Value) (fs : List Fr) (p : Fr) (d : Value) (ok : Nat → Prop) (hD : Own W W6.heap.size d p.f1) (hx : ∀ x ∈ p.f1, 0 ≤ x ∧ x ≤ 255) (hok : ∀ k, W6.heap.size ≤ k → ok k) (hb6 : w0.heap.size ≤ W6.heap.size)
    (hs : a.eval s = u) (hx' : a.eval x = .slice (some ⟨W.heap.size, 0, none⟩) 1 1) (HO : NO W6 w0.heap.size ok u fs) (HW : Below W6.heap.size W6 W) (HB : Below w0.heap.size w0 W) (hl : fs.length ≤ 1099511627776)
    (h : ∀ v1 w1, NO w1 w0.heap.size ok v1 (fs ++ [p]) → Below w0.heap.size w0 w1 → W.grownBy w1 u.ownBlock → wpList Tryd.prog ops Q rest (a.put o.dst v1) w1) :
    wpList Tryd.prog ops Q (o :: rest) a (W.alloc (.cells (frd p d) 45)) := by
  obtain ⟨ps, rfl, hN, hF⟩ := HO
  refine Kd.N_append (P := Tryd.prog) (Kd.raw 6) (w0 := w0) (W := W) w0.heap.size hgd s x 56 45 (.agg #[(.int .u8 0), (.int .u8 0), (.int .u16 0), (.int .u32 0), (.int .u32 0), (.slice none 0 0)]) 40 ho Tryd.underlying56 fr_info rfl (by decide) (by omega) u (ps.map cellsOf) (cellsOf (p, d)) (cellsOf (p, d)) ok (fun _ => False) hs hx' (cells_raw p hD) (fun _ h => h.elim) (fun k hk => hok k (Nat.le_trans HW.size hk)) (Kd.N_below hN HW) HB HB.size (by simp at hl ⊢; omega)
    (fun v1 w1 h1 h2 h3 _ => h v1 w1 (no_appended hD hx hok hb6 hN hF HW h1 h3) h2 h3)
theorem no_append_step {w0 W6 W : World} {ops : Array Oper} {o : Oper} {a : Act} {Q : Exit → Act → World → Prop} {Kc : Act → World → Prop} (hw : Region.wanted o (yielded ops a.tmps) = true) (s x : Operand)
    (ho : o.op = .call { callee := .builtin .append, args := #[s, x], argTypes := #[56, 56] })
    (u : Value) (fs : List Fr) (p : Fr) (d : Value) (ok : Nat → Prop) (hD : Own W W6.heap.size d p.f1) (hx : ∀ x ∈ p.f1, 0 ≤ x ∧ x ≤ 255) (hok : ∀ k, W6.heap.size ≤ k → ok k) (hb6 : w0.heap.size ≤ W6.heap.size)
    (hs : a.eval s = u) (hx' : a.eval x = .slice (some ⟨W.heap.size, 0, none⟩) 1 1) (HO : NO W6 w0.heap.size ok u fs) (HW : Below W6.heap.size W6 W) (HB : Below w0.heap.size w0 W) (hl : fs.length ≤ 1099511627776)
    (h : ∀ v1 w1, NO w1 w0.heap.size ok v1 (fs ++ [p]) → Below w0.heap.size w0 w1 → W.grownBy w1 u.ownBlock → Kc (a.put o.dst v1) w1) :
    if Region.wanted o (yielded ops a.tmps) = true then Oper.wp Tryd.prog o a (W.alloc (.cells (frd p d) 45)) Kc Q else Kc (a.put o.dst undef) (W.alloc (.cells (frd p d) 45)) := by
  obtain ⟨ps, rfl, hN, hF⟩ := HO
  refine Kd.N_append_step (P := Tryd.prog) (Kd.raw 6) (w0 := w0) (W := W) w0.heap.size hw s x 56 45 (.agg #[(.int .u8 0), (.int .u8 0), (.int .u16 0), (.int .u32 0), (.int .u32 0), (.slice none 0 0)]) 40 ho Tryd.underlying56 fr_info rfl (by decide) (by omega) u (ps.map cellsOf) (cellsOf (p, d)) (cellsOf (p, d)) ok (fun _ => False) hs hx' (cells_raw p hD) (fun _ h => h.elim) (fun k hk => hok k (Nat.le_trans HW.size hk)) (Kd.N_below hN HW) HB HB.size (by simp at hl ⊢; omega)
    (fun v1 w1 h1 h2 h3 _ => h v1 w1 (no_appended hD hx hok hb6 hN hF HW h1 h3) h2 h3)
end Go.Proofs.YtfddhipdedcacaaDoor
/-
  (*Decoder).Feed of a decoder that lives: each payload is a row of its own (XFeed's walk, the list told by NO).
-/
namespace Go.Proofs.YtfddhipdedcacaaDoor
open Go.RowKit Go.Proofs.YtfddhipdedcacaaDoorW.PrintWords Go.Proofs.YtfddhipdedcacaaDoorW.PrintLast Go.Proofs.YtfddhipdedcacaaDoor.PFeedPieces
set_option linter.unusedVariables false
set_option linter.unusedSimpArgs false
/-- What a Feed leaves: r is what the decoder makes of all its bytes. -/
structure FedToM (sa : Nat → Addr) (w0 w w' : World) (g : Nat) (most : Int) (v : Value) (r : List Fr × List Int × Nat × Int) (fv ev v' : Value) : Prop where
  below : Below w0.heap.size w0 w'
  kept : Kept w w' (fun k => k = g ∨ some k = v.ownBlock)
  frames : NO w' w.heap.size (fun k => w.heap.size ≤ k ∧ some k ≠ v'.ownBlock) fv r.1
  row : v'.ownBlock = v.ownBlock ∨ v'.ownBlock = none ∨ ∃ k, v'.ownBlock = some k ∧ w.heap.size ≤ k
  live : r.2.2.1 = 0 → ev = .nilIface ∧ w'.heap[g]? = some (dbox most v' none) ∧ Own w' w0.heap.size v' r.2.1
  dead : r.2.2.1 ≠ 0 → ∃ b, ev = vv b 0 ∧ w'.heap[g]? = some (dbox most (.slice none 0 0) (some ⟨b, 0, none⟩)) ∧ w'.heap[b]? = some (vbox r.2.2.2 sa r.2.2.1) ∧ w.heap.size ≤ b ∧ v' = .slice none 0 0
/-- The loop's state: u the frames so far, rest what is not read yet. -/
structure FLoopM (w wr : World) (most : Int) (v : Value) (hs rest : List Int) (fs : List Fr) (A : Option Addr) (n c : Nat) (u : Value) : Prop where
  below : Below w.heap.size w wr
  rd : FBs wr (fun k => some k = v.ownBlock) A n c rest
  out : NO wr w.heap.size (fun k => w.heap.size ≤ k) u fs
  cut : cut most hs = (fs ++ (cut most rest).1, (cut most rest).2)
  suf : ∃ k, rest = hs.drop k
theorem FLoopM.next {w wr w1 : World} {most : Int} {v u v1 : Value} {hs rest : List Int} {fs : List Fr} {A : Option Addr} {n c m : Nat} {p : Fr} (h : FLoopM w wr most v hs rest fs A n c u) (hbz : ∀ k, v.ownBlock = some k → k < w.heap.size) (h12 : ¬ rest.length < 12) (hz : chkX most rest = 0) (hp : ¬ rest.length - 12 < szX rest) (hm : m = 12 + szX rest) (hmn : m ≤ n)
    (hx : p = ⟨hdOf rest, (rest.drop 12).take (szX rest)⟩) (hb : Below w.heap.size w w1) (hN : NO w1 w.heap.size (fun k => w.heap.size ≤ k) v1 (fs ++ [p])) : FLoopM w w1 most v hs (rest.drop m) (fs ++ [p]) (if c = m then A else A.map (·.add m)) (n - m) (c - m) v1 := by
  refine ⟨hb, (h.rd.step fun k hk _ => (hb.block k (hbz k hk.symm)).trans (h.below.block k (hbz k hk.symm)).symm).drop m hmn, hN, ?_, ?_⟩
  · rw [h.cut, cut_go h12 hz hp, ← hm, ← hx]; simp
  · obtain ⟨k, hk⟩ := h.suf
    exact ⟨k + m, by rw [hk, List.drop_drop]⟩
/-- All is held on. -/
theorem fed_sameM {sa : Nat → Addr} {w0 w w2 X : World} {g : Nat} {most : Int} {v v1 u : Value} {zs rest : List Int} {fs : List Fr} (HB2 : Below w0.heap.size w0 w2) (HK2 : Kept w w2 (fun k => k = g ∨ some k = v.ownBlock)) (hB : Below w2.heap.size w2 X) (hg : X.heap[g]? = some (dbox most v1 none)) (hO : Own w2 w0.heap.size v1 zs)
    (hN : NO X w2.heap.size (fun k => w2.heap.size ≤ k) u fs) (hcut : cut most zs = (fs, rest, 0, 0)) (hrest : rest = zs) (hat : v1.ownBlock = v.ownBlock ∨ ∃ b, v1.ownBlock = some b ∧ w.heap.size ≤ b) : FedToM sa w0 w X g most v (cut most zs) u .nilIface v1 := by
  have hwz : w.heap.size ≤ w2.heap.size := HK2.1
  rw [hcut]
  refine ⟨belowT HB2 (hB.mono (Nat.le_refl _)), HK2.below hB, ?_, ?_, fun _ => ⟨rfl, hg, ?_⟩, fun h => absurd rfl h⟩
  · exact NO_mono (NO_lower hN hwz) fun k hk => ⟨by omega, fun e => by have := (hO.blk k e.symm).2; omega⟩
  · rcases hat with h | h
    · exact .inl h
    · exact .inr (.inr h)
  · rw [hrest]; exact hO.keep fun k hk => hB.block k (hO.blk k hk).2
/-- What is left is copied. -/
theorem fed_cloneM {sa : Nat → Addr} {w0 w w2 X w3 : World} {g : Nat} {most : Int} {v v1 v3 u : Value} {zs rest : List Int} {fs : List Fr} (HB2 : Below w0.heap.size w0 w2) (HK2 : Kept w w2 (fun k => k = g ∨ some k = v.ownBlock)) (hB : Below w2.heap.size w2 X) (hgz : g < w2.heap.size) (hg0 : w0.heap.size ≤ g)
    (hN : NO X w2.heap.size (fun k => w2.heap.size ≤ k) u fs) (hcut : cut most zs = (fs, rest, 0, 0)) (hO3 : Own w3 X.heap.size v3 rest) (hb3 : Below X.heap.size X w3) (hg3 : w3.heap[g]? = some (dbox most v1 none)) :
    FedToM sa w0 w (w3.setCell ⟨g, 1, none⟩ v3) g most v (cut most zs) u .nilIface v3 := by
  have hwz : w.heap.size ≤ w2.heap.size := HK2.1
  have hzX := hB.size
  have h03 := HB2.size
  have hst : ∀ k, k ≠ g → (w3.setCell ⟨g, 1, none⟩ v3).heap[k]? = w3.heap[k]? := fun k hk => set_other _ hk
  rw [hcut]
  refine ⟨(belowT (belowT HB2 hB) hb3).setCell hg0 _, ((HK2.below hB).below hb3).setCell (.inl (.inl rfl)) _, ?_, ?_, fun _ => ⟨rfl, set_blk _ hg3, ?_⟩, fun h => absurd rfl h⟩
  · have h1 := NO_bound (NO_lower hN hwz)
    have h2 := NO_below h1 hb3
    refine NO_mono (NO_step h2 fun k hk _ => hst k (by omega)) fun k hk => ⟨by omega, fun e => by have := (hO3.blk k e.symm).1; omega⟩
  · cases h : v3.ownBlock with
    | none => exact .inr (.inl rfl)
    | some k => exact .inr (.inr ⟨k, rfl, by have := (hO3.blk k h).1; omega⟩)
  · exact (hO3.lower (by omega)).keep fun k hk => hst k (by have := (hO3.blk k hk).1; omega)
/-- A header that may not be. -/
theorem fed_deadM {sa : Nat → Addr} {w0 w w2 X w3 : World} {g b e : Nat} {st : Int} {most : Int} {v v1 u : Value} {zs : List Int} {fs : List Fr} (HB2 : Below w0.heap.size w0 w2) (HK2 : Kept w w2 (fun k => k = g ∨ some k = v.ownBlock)) (hB : Below w2.heap.size w2 X) (hgz : g < w2.heap.size) (hg0 : w0.heap.size ≤ g)
    (hN : NO X w2.heap.size (fun k => w2.heap.size ≤ k) u fs) (hcut : cut most zs = (fs, [], e, st)) (he : e ≠ 0) (hb3 : Below X.heap.size X w3) (hg3 : w3.heap[g]? = some (dbox most v1 none)) (hb : w3.heap[b]? = some (vbox st sa e)) (hbX : X.heap.size ≤ b) :
    FedToM sa w0 w ((w3.setCell ⟨g, 2, none⟩ (.pointer (some ⟨b, 0, none⟩))).setCell ⟨g, 1, none⟩ (.slice none 0 0)) g most v (cut most zs) u (vv b 0) (.slice none 0 0) := by
  have hwz : w.heap.size ≤ w2.heap.size := HK2.1
  have hzX := hB.size
  have hst : ∀ k, k ≠ g → ((w3.setCell ⟨g, 2, none⟩ (.pointer (some ⟨b, 0, none⟩))).setCell ⟨g, 1, none⟩ (.slice none 0 0)).heap[k]? = w3.heap[k]? := fun k hk => by rw [set_other _ hk, set_other _ hk]
  rw [hcut]
  refine ⟨((belowT (belowT HB2 hB) hb3).setCell hg0 _).setCell hg0 _, (((HK2.below hB).below hb3).setCell (.inl (.inl rfl)) _).setCell (.inl (.inl rfl)) _, ?_, .inr (.inl (by simp [Value.ownBlock])), fun h => absurd h he, fun _ => ⟨b, rfl, set_blk _ (set_blk _ hg3), ?_, by omega, rfl⟩⟩
  · have h1 := NO_below (NO_lower hN hwz) hb3
    refine NO_mono (NO_step h1 fun k hk _ => hst k (by omega)) fun k hk => ⟨by omega, by simp [Value.ownBlock]⟩
  · rw [hst b (by omega)]; exact hb
theorem FedToM.drew {sa : Nat → Addr} {w0 w w' : World} {g : Nat} {most : Int} {v : Value} {r : List Fr × List Int × Nat × Int} {fv ev v' : Value} (h : FedToM sa w0 w w' g most v r fv ev v') : FedToM sa w0 w w'.drew g most v r fv ev v' :=
  ⟨h.below.drew, h.kept.below (Below.refl _ _).drew, NO_step h.frames fun _ _ _ => rfl, h.row, fun e => ⟨(h.live e).1, (h.live e).2.1, (h.live e).2.2.keep fun _ _ => rfl⟩, h.dead⟩
set_option maxRecDepth 100000 in
set_option maxHeartbeats 4000000 in
theorem feed_anyM {sa : Nat → Addr} {w0 w : World} (hG : Good w0 sa) (hL : Lawful w0) (g : Nat) (most : Int) (v : Value) (hs ys : List Int) (hb0 : Below w0.heap.size w0 w) (hg : w.heap[g]? = some (dbox most v none)) (hg0 : w0.heap.size ≤ g) (hO : Own w w0.heap.size v hs) (hx : ∀ x ∈ hs, 0 ≤ x ∧ x ≤ 255) (A : Option Addr) (n c : Nat) (hB : Bs w A n c ys) (m1 : 1 ≤ most) (m2 : most ≤ 65536) (hsz : hs.length + n ≤ 1099511627776) :
    Calls Tryd.prog 33 #[.pointer (some ⟨g, 0, none⟩), .slice A n c] w fun e w' => ∃ fv ev v', e = .returned (.tuple #[fv, ev]) ∧ FedToM sa w0 w w' g most v (cut most (hs ++ ys)) fv ev v' := by
  have hyb := hB.byt
  obtain rfl := hB.len
  obtain ⟨A0, c0, rfl, hq0⟩ := Own.bs hO hx
  have hne : (Value.slice A0 hs.length c0).ownBlock ≠ some g := fun e => by
    obtain ⟨cs, h1⟩ := own_typed hO g e
    rw [hg] at h1
    simp at h1
  have p0 : w.cell? ⟨g, 0, none⟩ = some (.int .i64 most) := cell_blk hg rfl
  have p1 : w.cell? ⟨g, 1, none⟩ = some (.slice A0 hs.length c0) := cell_blk hg rfl
  have p2 : w.cell? ⟨g, 2, none⟩ = some (.pointer none) := cell_blk hg rfl
  have HG := Lib.hid hG
  have HL := Lib.hid hL
  have HB0 := Lib.hid hb0
  have Hg := Lib.hid hg
  have HO := Lib.hid hO
  obtain ⟨zs, hzs⟩ : ∃ zs, zs = hs ++ ys := ⟨_, rfl⟩
  rw [← hzs]
  have HX := Lib.hid (show ∀ x ∈ zs, 0 ≤ x ∧ x ≤ 255 by rw [hzs]; exact fun x h => (List.mem_append.1 h).elim (hx x) (hyb x))
  have hzl : zs.length ≤ 1099511627776 := by rw [hzs, List.length_append]; exact hsz
  have HZ := Lib.hid hzs
  clear hzs
  have HBy := Lib.hid hB
  have HNE := Lib.hid hne
  clear hG hL hb0 hg hO hx hB hyb hq0 hne
  go_enter Tryd.func33, Tryd.ntmps33
  go_wp2_with fail
  go_step3
  go_wp2_with (at_builtin; refine append_at (w0 := w0) rfl _ _ rfl (.slice A0 hs.length c0) hs rfl HO.out A ys.length c ys rfl HBy.out (by omega) HB0.out ?_; intro v1 w1 ho1 hb1 hg1 hat1; rw [← HZ.out] at ho1; obtain ⟨A1, c1, rfl, hf1⟩ := Own.fbs ho1 HX.out; have HO1 := Lib.hid ho1; have HF1 := Lib.hid hf1; have HB1 := Lib.hid hb1; have HG1 := Lib.hid hg1; have HA1 := Lib.hid hat1; have Hg1 := Lib.hid (grown_blk hg1 HNE.out Hg.out); clear ho1 hb1 hg1 hat1 hf1; have q1 : w1.cell? ⟨g, 1, none⟩ = some (.slice A0 hs.length c0) := cell_blk Hg1.out rfl; have r1 : w1.frozen? ⟨g, 1, none⟩ = false := free_blk Hg1.out)
  go_step3
  go_wp2_with fail
  obtain ⟨w2, hw2⟩ : ∃ w2, w2 = w1.setCell ⟨g, 1, none⟩ (.slice A1 zs.length c1) := ⟨_, rfl⟩
  have hv1 : (Value.slice A1 zs.length c1).ownBlock ≠ some g := fun e => by
    obtain ⟨cs, h1⟩ := own_typed HO1.out g e
    rw [Hg1.out] at h1
    simp at h1
  have Hg2 := Lib.hid (show w2.heap[g]? = some (dbox most (.slice A1 zs.length c1) none) by rw [hw2]; exact set_blk _ Hg1.out)
  have hst : ∀ k, k ≠ g → w2.heap[k]? = w1.heap[k]? := fun k hk => by rw [hw2]; exact set_other _ hk
  have HF2 := Lib.hid (HF1.out.step (w1 := w2) fun k hk _ => hst k (fun e => hv1 (by rw [← hk, e])))
  have HO2 := Lib.hid (HO1.out.keep (w1 := w2) fun k hk => hst k (fun e => hv1 (by rw [hk, e])))
  have HB2 := Lib.hid (show Below w0.heap.size w0 w2 by rw [hw2]; exact HB1.out.setCell hg0 _)
  have HK2 := Lib.hid (show Kept w w2 (fun k => k = g ∨ some k = (Value.slice A0 hs.length c0).ownBlock) by
    rw [hw2]
    exact (Kept.of_grown HG1.out (Kept.refl w _) (fun k hk => .inl (.inr hk.symm))).setCell (.inl (.inl rfl)) _)
  have hgz : g < w2.heap.size := (Array.getElem?_eq_some_iff.1 Hg2.out).1
  have HGd := Lib.hid (HG.out.below HB2.out)
  have HLd := Lib.hid (HL.out.below HB2.out)
  have hbz : ∀ k, (Value.slice A1 zs.length c1).ownBlock = some k → k < w2.heap.size := fun k hk => (HO2.out.blk k hk).2
  have HBZ := Lib.hid hbz
  have hwz : w.heap.size ≤ w2.heap.size := HK2.out.1
  rw [← hw2]
  clear hw2 hv1 hst hbz p0 p1 p2 q1 r1 HF1 HO1 Hg1 HB1 HG1 HO Hg HBy HB0 HNE
  go_loopw [6, 7] (fun all out wr => ∃ (rest : List Int) (fs : List Fr) (A : Option Addr) (n c : Nat), all = .slice A n c ∧ Hid (FLoopM w2 wr most (.slice A1 zs.length c1) zs rest fs A n c out)) (fun all _ _ => lenOf all)
  case atStart => exact ⟨zs, [], A1, zs.length, c1, rfl, Lib.hid ⟨Below.refl _ _, HF2.out, NO_nil _ _ _, by simp, 0, rfl⟩⟩
  case round =>
    obtain ⟨rest, fs, A2, n2, c2, rfl, HR⟩ := hrel
    obtain rfl := HR.out.rd.now.len
    have hrc : rest.length ≤ c2 := HR.out.rd.now.cap
    have hcm : c2 ≤ 9223372036854775807 := HR.out.rd.now.max
    have hrz : rest.length ≤ zs.length := by have := cut_len most zs; obtain ⟨k, hk⟩ := HR.out.suf; rw [hk]; simp
    have HGr := Lib.hid (HGd.out.below HR.out.below)
    have HLr := Lib.hid (HLd.out.below HR.out.below)
    have Hgr := Lib.hid (keepB HR.out.below Hg2.out)
    have p0 : wr.cell? ⟨g, 0, none⟩ = some (.int .i64 most) := cell_blk Hgr.out rfl
    have p1 : wr.cell? ⟨g, 1, none⟩ = some (.slice A1 zs.length c1) := cell_blk Hgr.out rfl
    have p2 : wr.cell? ⟨g, 2, none⟩ = some (.pointer none) := cell_blk Hgr.out rfl
    by_cases h12 : rest.length < 12
    · have hd : decide ((12 : Int) ≤ rest.length) = false := by simp; omega
      have hcut : cut most zs = (fs, rest, 0, 0) := by rw [HR.out.cut, cut_short h12]; simp
      have HC := Lib.hid hcut
      clear hcut
      by_cases hlz : rest.length < zs.length
      · go_wp2_with fail
        refine (clone_any HR.out.rd.now (by omega)).mono ?_
        rintro e w3 ⟨v3, rfl, ho3, hb3⟩
        obtain ⟨A3, c3, rfl, _⟩ := Own.bs ho3 HR.out.rd.now.byt
        have HO3 := Lib.hid ho3
        have HB3 := Lib.hid hb3
        have Hg3 := Lib.hid (keepB hb3 Hgr.out)
        clear ho3 hb3
        have q1 : w3.cell? ⟨g, 1, none⟩ = some (.slice A1 zs.length c1) := cell_blk Hg3.out rfl
        have r1 : w3.frozen? ⟨g, 1, none⟩ = false := free_blk Hg3.out
        go_wp2_with fail
        rw [Exit.noGoto_ret]
        go_ret2
        refine ⟨_, _, .slice A3 rest.length c3, rfl, ?_⟩
        exact fed_cloneM HB2.out HK2.out HR.out.below hgz hg0 HR.out.out HC.out HO3.out HB3.out Hg3.out
      · go_wp2_with fail
        rw [Exit.noGoto_ret]
        go_ret2
        refine ⟨_, _, .slice A1 zs.length c1, rfl, ?_⟩
        refine fed_sameM HB2.out HK2.out HR.out.below Hgr.out HO2.out HR.out.out HC.out ?_ HA1.out
        obtain ⟨k, hk⟩ := HR.out.suf
        have : rest.length = zs.length - k := by rw [hk]; simp
        rw [hk]
        rcases Nat.eq_zero_or_pos k with h0 | h0
        · rw [h0]; rfl
        · have hz0 : zs.length = 0 := by omega
          rw [List.eq_nil_of_length_eq_zero hz0]; simp
    · have hd : decide ((12 : Int) ≤ rest.length) = true := by simp; omega
      have hc12 : (12 : Int) ≤ c2 := by omega
      have hI := D_in HR.out.rd.now.byt
      obtain ⟨d0, d1, d2, d3, d4, d5⟩ := D_take h12
      have hdec := decode_any HGr.out (HR.out.rd.now.take' 12 (by omega))
      rw [d0, d1, d2, d3, d4, d5] at hdec
      have hev : errv sa 0 = .nilIface := rfl
      clear d0 d1 d2 d3 d4 d5
      have hck : chkX most rest = chk (D0 rest) (D1 rest) (D2 rest) (D3 rest) (D4 rest) most := rfl
      have hsx : szX rest = (szF (D1 rest) (D4 rest)).toNat := rfl
      have hhd : hdOf rest = ⟨D0 rest, D1 rest, D2 rest, D3 rest, D4 rest⟩ := rfl
      have hst : ∀ e, chkX most rest = e → e ≠ 0 → cut most rest = ([], [], e, D3 rest) := fun e he h0 => by subst he; exact cut_bad h12 h0
      generalize D0 rest = x0 at hdec hI hck hsx hhd hst
      generalize D1 rest = x1 at hdec hI hck hsx hhd hst
      generalize D2 rest = x2 at hdec hI hck hsx hhd hst
      generalize D3 rest = x3 at hdec hI hck hsx hhd hst
      generalize D4 rest = x4 at hdec hI hck hsx hhd hst
      have HI := Lib.hid hI
      have HCK := Lib.hid hck
      have HSX := Lib.hid hsx
      have HHD := Lib.hid hhd
      have HST := Lib.hid hst
      clear hI hck hsx hhd hst
      go_wp2_with fail
      refine hdec.mono ?_
      rintro e w3 ⟨rfl, hb3⟩
      have HB3 := Lib.hid hb3
      have Hg3 := Lib.hid (keepB hb3 Hgr.out)
      clear hb3 hdec p0 p1 p2
      go_wp2_with fail
      obtain ⟨w4, hw4⟩ : ∃ w4, w4 = w3.alloc (.cells #[.int .u8 x0, .int .u8 x1, .int .u16 x2, .int .u32 x3, .int .u32 x4] 26) := ⟨_, rfl⟩
      have hh4 : w4.heap[w3.heap.size]? = some (.cells #[.int .u8 x0, .int .u8 x1, .int .u16 x2, .int .u32 x3, .int .u32 x4] 26 (0, 0)) := by rw [hw4]; exact alloc_blk _ _
      have HB4 := Lib.hid (show Below wr.heap.size wr w4 by rw [hw4]; exact HB3.out.alloc HB3.out.size _)
      rw [← hw4]
      have Hh4 := Lib.hid hh4
      have Hg4 := Lib.hid (keepB HB4.out Hgr.out)
      clear hh4 hw4 HB3 Hg3
      have h0 : w4.cell? ⟨w3.heap.size, 0, none⟩ = some (.int .u8 x0) := cell_blk Hh4.out rfl
      have h1 : w4.cell? ⟨w3.heap.size, 1, none⟩ = some (.int .u8 x1) := cell_blk Hh4.out rfl
      have h2 : w4.cell? ⟨w3.heap.size, 2, none⟩ = some (.int .u16 x2) := cell_blk Hh4.out rfl
      have h3 : w4.cell? ⟨w3.heap.size, 3, none⟩ = some (.int .u32 x3) := cell_blk Hh4.out rfl
      have h4 : w4.cell? ⟨w3.heap.size, 4, none⟩ = some (.int .u32 x4) := cell_blk Hh4.out rfl
      have p0 : w4.cell? ⟨g, 0, none⟩ = some (.int .i64 most) := cell_blk Hg4.out rfl
      refine start_ (n := 7) (S := fun w' => w'.cell? ⟨w3.heap.size, 0, none⟩ = some (.int .u8 x0) ∧ w'.cell? ⟨w3.heap.size, 1, none⟩ = some (.int .u8 x1) ∧ w'.cell? ⟨w3.heap.size, 2, none⟩ = some (.int .u16 x2) ∧ w'.cell? ⟨w3.heap.size, 3, none⟩ = some (.int .u32 x3) ∧ w'.cell? ⟨w3.heap.size, 4, none⟩ = some (.int .u32 x4) ∧ w'.cell? ⟨g, 0, none⟩ = some (.int .i64 most) ∧ Hid (Below w4.heap.size w4 w')) (ds := []) #[false, false, false, false, false, false, false] (by kernel_rfl) rfl rfl (⟨h0, h1, h2, h3, h4, p0, Lib.hid (Below.refl _ _).drew⟩) (fun hHeld => ?_)
      refine pure_ (i := 1) (N := some 50) (v := ?_) (a' := ?_) #[false, true, false, false, false, false, false] rfl rfl (by kernel_rfl) (fun _ _ _ h => h) (Or.inl ⟨by rfl, ?_⟩) ?_ ?_
      rotate_left
      · intro w'
        go_simp
        with_reducible rfl
      rotate_left
      · simp only [Act.put, List.setIfInBounds_toArray, List.set_cons_zero, List.set_cons_succ, i64_w, i32_w]
        rfl
      refine pure_ (i := 2) (N := some 51) (v := ?_) (a' := ?_) #[false, true, true, false, false, false, false] rfl rfl (by kernel_rfl) (fun _ _ _ h => h) (Or.inl ⟨by rfl, ?_⟩) ?_ ?_
      rotate_left
      · intro w'
        go_simp
        with_reducible rfl
      rotate_left
      · simp only [Act.put, List.setIfInBounds_toArray, List.set_cons_zero, List.set_cons_succ, i64_w, i32_w]
        rfl
      refine pure_ (i := 3) (N := some 52) (v := ?_) (a' := ?_) #[false, true, true, true, false, false, false] rfl rfl (by kernel_rfl) (fun _ _ _ h => h) (Or.inl ⟨by rfl, ?_⟩) ?_ ?_
      rotate_left
      · intro w'
        go_simp
        with_reducible rfl
      rotate_left
      · simp only [Act.put, List.setIfInBounds_toArray, List.set_cons_zero, List.set_cons_succ, i64_w, i32_w]
        rfl
      refine take_ (i := 0) (N := some 49) (v := ?_) (a' := ?_) #[true, true, true, true, false, false, false] rfl rfl (by kernel_rfl) (fun _ _ _ h => h) (Or.inl ⟨by rfl, ?_⟩) hHeld ?_ ?_
      rotate_left
      · rintro w' ⟨s0, s1, s2, s3, s4, s5, s6⟩
        go_simp
        with_reducible rfl
      rotate_left
      · simp only [Act.put, List.setIfInBounds_toArray, List.set_cons_zero, List.set_cons_succ, i64_w, i32_w]
        rfl
      refine take_ (i := 4) (N := some 53) (v := ?_) (a' := ?_) #[true, true, true, true, true, false, false] rfl rfl (by kernel_rfl) (fun _ _ _ h => h) (Or.inl ⟨by rfl, ?_⟩) hHeld ?_ ?_
      rotate_left
      · rintro w' ⟨s0, s1, s2, s3, s4, s5, s6⟩
        go_simp
        with_reducible rfl
      rotate_left
      · simp only [Act.put, List.setIfInBounds_toArray, List.set_cons_zero, List.set_cons_succ, i64_w, i32_w]
        rfl
      refine one_ (i := 5) (N := some 54) #[true, true, true, true, true, true, false] rfl rfl (by kernel_rfl) (by decide) (fun K hK => ?_)
      refine goes_ Tryd.func18 (by kernel_rfl) rfl #[hdr x0 x1 x2 x3 x4, .int .i64 most] (by rfl) rfl rfl (by simp only [List.map_toArray, List.map_cons, List.map_nil]; rfl) ?_
      with_reducible refine (check_any (HGr.out.below (HB4.out.trans (hHeld.2.2.2.2.2.2.out.mono HB4.out.size))) (HLr.out.below (HB4.out.trans (hHeld.2.2.2.2.2.2.out.mono HB4.out.size))) x0 x1 x2 x3 x4 most HI.out.t0 HI.out.t1 HI.out.l0 HI.out.l1).mono ?_
      rintro e w5 ⟨rfl, hb5⟩
      refine ⟨_, rfl, ?_⟩
      have HB5 := Lib.hid hb5
      clear hb5
      refine hK.out _ _ (⟨keepA HB5.out hHeld.1, keepA HB5.out hHeld.2.1, keepA HB5.out hHeld.2.2.1, keepA HB5.out hHeld.2.2.2.1, keepA HB5.out hHeld.2.2.2.2.1, keepA HB5.out hHeld.2.2.2.2.2.1, Lib.hid (belowT hHeld.2.2.2.2.2.2.out HB5.out)⟩) (fun hHeld => ?_)
      clear hK K
      refine norm_ (a' := ?_) ?_ ?_
      rotate_left
      · show Act.put _ (some 54) _ = _
        simp only [Act.put, List.setIfInBounds_toArray, List.set_cons_zero, List.set_cons_succ, i64_w, i32_w]
        rfl
      refine pure_ (i := 6) (N := some 9) (v := ?_) (a' := ?_) #[true, true, true, true, true, true, true] rfl rfl (by kernel_rfl) (fun _ _ _ h => h) (Or.inl ⟨by rfl, ?_⟩) ?_ ?_
      rotate_left
      · intro w'
        go_simp
        with_reducible rfl
      rotate_left
      · simp only [Act.put, List.setIfInBounds_toArray, List.set_cons_zero, List.set_cons_succ, i64_w, i32_w]
        rfl
      refine done_ (by kernel_rfl) ?_
      have HBb := Lib.hid (belowT HB4.out hHeld.2.2.2.2.2.2.out)
      have Hg5 := Lib.hid (keepB hHeld.2.2.2.2.2.2.out Hg4.out)
      have Hh5 := Lib.hid (keepB hHeld.2.2.2.2.2.2.out Hh4.out)
      clear hHeld HB5 h0 h1 h2 h3 h4 p0
      by_cases hz : chkX most rest = 0
      · have e9 : errv sa (chk x0 x1 x2 x3 x4 most) = .nilIface := by rw [← HCK.out, hz]; rfl
        rw [e9]
        have HZZ := Lib.hid hz
        clear hz e9
        have h0 : w5.cell? ⟨w3.heap.size, 0, none⟩ = some (.int .u8 x0) := cell_blk Hh5.out rfl
        have h1 : w5.cell? ⟨w3.heap.size, 1, none⟩ = some (.int .u8 x1) := cell_blk Hh5.out rfl
        have h2 : w5.cell? ⟨w3.heap.size, 2, none⟩ = some (.int .u16 x2) := cell_blk Hh5.out rfl
        have h3 : w5.cell? ⟨w3.heap.size, 3, none⟩ = some (.int .u32 x3) := cell_blk Hh5.out rfl
        have h4 : w5.cell? ⟨w3.heap.size, 4, none⟩ = some (.int .u32 x4) := cell_blk Hh5.out rfl
        go_wp2_with fail
        refine (size_any x0 x1 x2 x3 x4 w5 HI.out.l0 HI.out.l1).mono ?_
        rintro e w6 ⟨rfl, hb6⟩
        have HB6 := Lib.hid (hb6 : Below w5.heap.size w5 w6)
        have HBc := Lib.hid (belowT HBb.out hb6)
        have Hg6 := Lib.hid (keepB hb6 Hg5.out)
        have Hh6 := Lib.hid (keepB hb6 Hh5.out)
        clear hb6 h0 h1 h2 h3 h4
        have hsz0 : (szX rest : Int) = szF x1 x4 := by rw [HSX.out]; have := szF_nonneg x1 HI.out.l0; omega
        have hsz1 := szF_le x1 HI.out.l0 HI.out.l1
        have hw12 : IntKind.i64.wrap ((rest.length : Int) - 12) = (rest.length : Int) - 12 := by rw [IntKind.wrap_i64]; omega
        generalize szF x1 x4 = sz at hsz0 hsz1 ⊢
        have p1 : w6.cell? ⟨g, 1, none⟩ = some (.slice A1 zs.length c1) := cell_blk Hg6.out rfl
        have HRD := Lib.hid (HR.out.rd.below HBc.out)
        by_cases hp : (rest.length : Int) - 12 < sz
        · have hdp : decide ((rest.length : Int) - 12 < sz) = true := by simp; omega
          have hcut : cut most zs = (fs, rest, 0, 0) := by rw [HR.out.cut, cut_part h12 HZZ.out (by omega)]; simp
          have HC := Lib.hid hcut
          clear hcut
          by_cases hlz : rest.length < zs.length
          · go_wp2_with fail
            refine (clone_any HRD.out.now (by omega)).mono ?_
            rintro e w7 ⟨v3, rfl, ho3, hb3⟩
            obtain ⟨A3, c3, rfl, _⟩ := Own.bs ho3 HR.out.rd.now.byt
            have HO3 := Lib.hid ho3
            have HB3 := Lib.hid hb3
            have Hg3 := Lib.hid (keepB hb3 Hg6.out)
            clear ho3 hb3
            have q1 : w7.cell? ⟨g, 1, none⟩ = some (.slice A1 zs.length c1) := cell_blk Hg3.out rfl
            have r1 : w7.frozen? ⟨g, 1, none⟩ = false := free_blk Hg3.out
            go_wp2_with fail
            rw [Exit.noGoto_ret]
            go_ret2
            refine ⟨_, _, .slice A3 rest.length c3, rfl, ?_⟩
            exact fed_cloneM HB2.out HK2.out HR.out.below hgz hg0 HR.out.out HC.out (HO3.out.lower HBc.out.size) (belowT HBc.out HB3.out) Hg3.out
          · go_wp2_with fail
            rw [Exit.noGoto_ret]
            go_ret2
            refine ⟨_, _, .slice A1 zs.length c1, rfl, ?_⟩
            refine fed_sameM HB2.out HK2.out (belowT HR.out.below HBc.out) Hg6.out HO2.out (NO_below HR.out.out HBc.out) HC.out ?_ HA1.out
            obtain ⟨k, hk⟩ := HR.out.suf
            have : rest.length = zs.length - k := by rw [hk]; simp
            rw [hk]
            rcases Nat.eq_zero_or_pos k with h0 | h0
            · rw [h0]; rfl
            · have hz0 : zs.length = 0 := by omega
              rw [List.eq_nil_of_length_eq_zero hz0]; simp
        · have hdp : decide ((rest.length : Int) - 12 < sz) = false := by simp; omega
          have hfl : fs.length ≤ 1099511627776 := by have := cut_len most zs; rw [HR.out.cut] at this; simp at this; omega
          by_cases hs0 : sz = 0
          · obtain rfl := hs0
            have h0 : w6.cell? ⟨w3.heap.size, 0, none⟩ = some (.int .u8 x0) := cell_blk Hh6.out rfl
            have h1 : w6.cell? ⟨w3.heap.size, 1, none⟩ = some (.int .u8 x1) := cell_blk Hh6.out rfl
            have h2 : w6.cell? ⟨w3.heap.size, 2, none⟩ = some (.int .u16 x2) := cell_blk Hh6.out rfl
            have h3 : w6.cell? ⟨w3.heap.size, 3, none⟩ = some (.int .u32 x3) := cell_blk Hh6.out rfl
            have h4 : w6.cell? ⟨w3.heap.size, 4, none⟩ = some (.int .u32 x4) := cell_blk Hh6.out rfl
            have hN6 := Lib.hid (NO_below HR.out.out HBc.out)
            go_wp2_with (at_builtin; refine no_append (w0 := w2) (W6 := w6) (W := w6) rfl _ _ rfl u7 fs ⟨⟨x0, x1, x2, x3, x4⟩, []⟩ (.slice none 0 0) (fun k => w2.heap.size ≤ k) ⟨rfl, .inl ⟨rfl, rfl⟩⟩ (by simp) (fun k hk => Nat.le_trans (belowT HR.out.below HBc.out).size hk) (belowT HR.out.below HBc.out).size rfl rfl hN6.out (Below.refl _ _) (belowT HR.out.below HBc.out) hfl ?_; intro v7 w7 hn7 hb7 hg7; have HN7 := Lib.hid hn7; have HB7 := Lib.hid hb7; clear hn7 hb7 hg7)
            go_roundw
            case rel => exact ⟨_, _, _, _, _, rfl, Lib.hid (HR.out.next (m := 12) HBZ.out h12 HZZ.out (by omega) (by omega) (by omega) (by rw [HHD.out, show szX rest = 0 by omega]; rfl) HB7.out HN7.out)⟩
            case measure => simp [lenOf]; omega
          · have hs9 : (sz == 0) = false := by simp [hs0]
            obtain ⟨q, rfl⟩ : ∃ q : Nat, sz = (q : Int) := ⟨szX rest, hsz0.symm⟩
            have hqs : szX rest = q := by omega
            have hwe : IntKind.i64.wrap (12 + (q : Int)) = 12 + (q : Int) := by rw [IntKind.wrap_i64]; omega
            have hle : 12 + q ≤ rest.length := by omega
            have h0 : w6.cell? ⟨w3.heap.size, 0, none⟩ = some (.int .u8 x0) := cell_blk Hh6.out rfl
            have h1 : w6.cell? ⟨w3.heap.size, 1, none⟩ = some (.int .u8 x1) := cell_blk Hh6.out rfl
            have h2 : w6.cell? ⟨w3.heap.size, 2, none⟩ = some (.int .u16 x2) := cell_blk Hh6.out rfl
            have h3 : w6.cell? ⟨w3.heap.size, 3, none⟩ = some (.int .u32 x3) := cell_blk Hh6.out rfl
            have h4 : w6.cell? ⟨w3.heap.size, 4, none⟩ = some (.int .u32 x4) := cell_blk Hh6.out rfl
            have hnt : (12 + (q : Int)).toNat = 12 + q := by omega
            have hlb : ((rest.drop 12).take q).length = q := by simp; omega
            have g1 : (12 : Int) ≤ 12 + (q : Int) := by omega
            have g2 : (12 : Int) + (q : Int) ≤ (c2 : Int) := by omega
            have hN6 := Lib.hid (NO_below HR.out.out HBc.out)
            obtain ⟨pb, hpb⟩ : ∃ pb, pb = (rest.drop 12).take q := ⟨_, rfl⟩
            have HPB := Lib.hid hpb
            have HPX := Lib.hid (show ∀ x ∈ pb, 0 ≤ x ∧ x ≤ 255 by rw [hpb]; exact fun x hx => HR.out.rd.now.byt x (List.mem_of_mem_drop (List.mem_of_mem_take hx)))
            clear hpb hlb
            have HKK : _ ∧ _ ∧ _ ∧ _ ∧ _ ∧ True := ⟨h0, h1, h2, h3, h4, trivial⟩
            go_wp2_with fail
            refine start_ (n := 10) (S := fun w' => w'.cell? ⟨w3.heap.size, 0, none⟩ = some (.int .u8 x0) ∧ w'.cell? ⟨w3.heap.size, 1, none⟩ = some (.int .u8 x1) ∧ w'.cell? ⟨w3.heap.size, 2, none⟩ = some (.int .u16 x2) ∧ w'.cell? ⟨w3.heap.size, 3, none⟩ = some (.int .u32 x3) ∧ w'.cell? ⟨w3.heap.size, 4, none⟩ = some (.int .u32 x4) ∧ Hid (Below w6.heap.size w6 w')) (ds := [8]) #[false, false, false, false, false, false, false, false, false, false] (by kernel_rfl) rfl rfl (⟨h0, h1, h2, h3, h4, Lib.hid (Below.refl _ _).drew⟩) (fun hHeld => ?_)
            refine pure_ (i := 0) (N := some 95) (v := ?_) (a' := ?_) #[true, false, false, false, false, false, false, false, false, false] rfl rfl (by kernel_rfl) (fun _ _ _ h => h) (Or.inl ⟨by rfl, ?_⟩) ?_ ?_
            rotate_left
            · intro w'
              go_simp
              with_reducible rfl
            rotate_left
            · simp only [Act.put, List.setIfInBounds_toArray, List.set_cons_zero, List.set_cons_succ, i64_w, i32_w]
              rfl
            refine pure_ (i := 2) (N := some 97) (v := ?_) (a' := ?_) #[true, false, true, false, false, false, false, false, false, false] rfl rfl (by kernel_rfl) (fun _ _ _ h => h) (Or.inl ⟨by rfl, ?_⟩) ?_ ?_
            rotate_left
            · intro w'
              go_simp
              with_reducible rfl
            rotate_left
            · simp only [Act.put, List.setIfInBounds_toArray, List.set_cons_zero, List.set_cons_succ, i64_w, i32_w]
              rfl
            refine pure_ (i := 3) (N := some 98) (v := ?_) (a' := ?_) #[true, false, true, true, false, false, false, false, false, false] rfl rfl (by kernel_rfl) (fun _ _ _ h => h) (Or.inl ⟨by rfl, ?_⟩) ?_ ?_
            rotate_left
            · intro w'
              go_simp
              with_reducible rfl
            rotate_left
            · simp only [Act.put, List.setIfInBounds_toArray, List.set_cons_zero, List.set_cons_succ, i64_w, i32_w]
              rfl
            refine pure_ (i := 4) (N := some 99) (v := ?_) (a' := ?_) #[true, false, true, true, true, false, false, false, false, false] rfl rfl (by kernel_rfl) (fun _ _ _ h => h) (Or.inl ⟨by rfl, ?_⟩) ?_ ?_
            rotate_left
            · intro w'
              go_simp
              with_reducible rfl
            rotate_left
            · simp only [Act.put, List.setIfInBounds_toArray, List.set_cons_zero, List.set_cons_succ, i64_w, i32_w]
              rfl
            refine take_ (i := 1) (N := some 96) (v := ?_) (a' := ?_) #[true, true, true, true, true, false, false, false, false, false] rfl rfl (by kernel_rfl) (fun _ _ _ h => h) (Or.inl ⟨by rfl, ?_⟩) hHeld ?_ ?_
            rotate_left
            · rintro w' ⟨s0, s1, s2, s3, s4, s5⟩
              go_simp
              with_reducible rfl
            rotate_left
            · simp only [Act.put, List.setIfInBounds_toArray, List.set_cons_zero, List.set_cons_succ, i64_w, i32_w]
              rfl
            refine one_ (i := 5) (N := some 100) #[true, true, true, true, true, true, false, false, false, false] rfl rfl (by kernel_rfl) (by decide) (fun K hK => ?_)
            refine goes_ Tryd.func58 (by kernel_rfl) rfl #[.slice (if c2 = 12 then A2 else A2.map (·.add 12)) q (c2 - 12)] (by rfl) rfl rfl (by simp only [List.map_toArray, List.map_cons, List.map_nil]; rfl) ?_
            with_reducible refine (clone_any (((HRD.out.below hHeld.2.2.2.2.2.out).drop 12 (by omega)).take q (by omega)).now (by omega)).mono ?_
            rintro e w7 ⟨vc, rfl, ho7, hb7⟩
            refine ⟨_, rfl, ?_⟩
            rw [← HPB.out] at ho7
            obtain ⟨A7, c7, rfl, hq7⟩ := Own.fbs ho7 HPX.out
            have HB67 := Lib.hid (belowT hHeld.2.2.2.2.2.out hb7)
            have HO7 := Lib.hid (ho7.lower hHeld.2.2.2.2.2.out.size)
            have HQ7 := Lib.hid hq7
            clear hb7 ho7 hq7
            refine hK.out _ _ (⟨keepA HB67.out HKK.1, keepA HB67.out HKK.2.1, keepA HB67.out HKK.2.2.1, keepA HB67.out HKK.2.2.2.1, keepA HB67.out HKK.2.2.2.2.1, HB67⟩) (fun hHeld => ?_)
            clear hK K
            refine norm_ (a' := ?_) ?_ ?_
            rotate_left
            · show Act.put _ (some 100) _ = _
              simp only [Act.put, List.setIfInBounds_toArray, List.set_cons_zero, List.set_cons_succ, i64_w, i32_w]
              rfl
            refine pure_ (i := 6) (N := some 101) (v := ?_) (a' := ?_) #[true, true, true, true, true, true, true, false, false, false] rfl rfl (by kernel_rfl) (fun _ _ _ h => h) (Or.inl ⟨by rfl, ?_⟩) ?_ ?_
            rotate_left
            · intro w'
              go_simp
              with_reducible rfl
            rotate_left
            · simp only [Act.put, List.setIfInBounds_toArray, List.set_cons_zero, List.set_cons_succ, i64_w, i32_w]
              rfl
            refine one_ (i := 7) (N := some 102) #[true, true, true, true, true, true, true, true, false, false] rfl rfl (by kernel_rfl) (by decide) (fun K hK => ?_)
            refine value_ (w1 := ?_) (v := ?_) (by rfl) rfl ?_ ?_
            rotate_left 2
            · go_simp
              constructor
              · rfl
              · rfl
            have hba : Below w7.heap.size w7 (w7.alloc (.cells #[.int .u8 x0, .int .u8 x1, .int .u16 x2, .int .u32 x3, .int .u32 x4, .slice A7 pb.length c7] 45)) := (Below.refl _ _).alloc (Nat.le_refl _) _
            refine hK.out _ _ (⟨keepA hba hHeld.1, keepA hba hHeld.2.1, keepA hba hHeld.2.2.1, keepA hba hHeld.2.2.2.1, keepA hba hHeld.2.2.2.2.1, Lib.hid (belowT hHeld.2.2.2.2.2.out hba)⟩) (fun hHeld => ?_)
            clear hK K
            refine norm_ (a' := ?_) ?_ ?_
            rotate_left
            · show Act.put _ (some 102) _ = _
              simp only [Act.put, List.setIfInBounds_toArray, List.set_cons_zero, List.set_cons_succ, i64_w, i32_w]
              rfl
            refine last_ (i := 8) (N := some 103) #[true, true, true, true, true, true, true, true, true, false] rfl rfl (by kernel_rfl) (by decide) (fun K hK => ?_)
            refine no_append_step (w0 := w2) (W6 := w6) (W := w7) (by rfl) (.tmp 95) (.tmp 102) rfl u7 fs ⟨⟨x0, x1, x2, x3, x4⟩, pb⟩ (.slice A7 pb.length c7) (fun k => w2.heap.size ≤ k) HO7.out HPX.out (fun k hk => Nat.le_trans (belowT HR.out.below HBc.out).size hk) (belowT HR.out.below HBc.out).size rfl rfl hN6.out HB67.out (belowT (belowT HR.out.below HBc.out) HB67.out) hfl ?_
            intro v8 w8 hn8 hb8 hg8
            have HN8 := Lib.hid hn8
            have HB8 := Lib.hid hb8
            clear hn8 hb8 hg8
            refine hK.out _ _ ?_
            clear hK K
            refine norm_ (a' := ?_) ?_ ?_
            rotate_left
            · show Act.put _ (some 103) _ = _
              simp only [Act.put, List.setIfInBounds_toArray, List.set_cons_zero, List.set_cons_succ, i64_w, i32_w]
              rfl
            refine pure_ (i := 9) (N := some 7) (v := ?_) (a' := ?_) #[true, true, true, true, true, true, true, true, true, true] rfl rfl (by kernel_rfl) (fun _ _ _ h => h) (Or.inl ⟨by rfl, ?_⟩) ?_ ?_
            rotate_left
            · intro w'
              go_simp
              with_reducible rfl
            rotate_left
            · simp only [Act.put, List.setIfInBounds_toArray, List.set_cons_zero, List.set_cons_succ, i64_w, i32_w]
              rfl
            refine done_ (by kernel_rfl) ?_
            clear hHeld HB67 HO7 HQ7 HKK h0 h1 h2 h3 h4
            have g3 : 12 + (q : Int) ≤ (rest.length : Int) := by omega
            go_wp2_with fail
            go_roundw
            case rel => exact ⟨_, _, _, _, _, rfl, Lib.hid (HR.out.next (m := 12 + q) HBZ.out h12 HZZ.out (by omega) (by omega) (by omega) (by rw [HHD.out, HPB.out, hqs]) HB8.out HN8.out)⟩
            case measure => simp [lenOf]; omega
      · have e9 : errv sa (chk x0 x1 x2 x3 x4 most) = sv (sa (chkX most rest)) := by rw [← HCK.out]; unfold errv; rw [if_neg hz]
        rw [e9]
        have hcd := cut_code most rest
        rw [HST.out _ rfl hz] at hcd
        simp only at hcd
        have he1 : 11 ≤ chkX most rest := by omega
        have he2 : chkX most rest ≤ 15 := by omega
        have hcut : cut most zs = (fs, [], chkX most rest, x3) := by rw [HR.out.cut, HST.out _ rfl hz]; simp
        have HC := Lib.hid hcut
        clear hcut hcd e9 HI HCK HSX HHD HST
        generalize chkX most rest = ec at hz he1 he2 HC ⊢
        have h3 : w5.cell? ⟨w3.heap.size, 3, none⟩ = some (.int .u32 x3) := cell_blk Hh5.out rfl
        go_wp2_with fail
        refine start_ (n := 10) (S := fun w' => w'.cell? ⟨w3.heap.size, 3, none⟩ = some (.int .u32 x3) ∧ Hid (Below w5.heap.size w5 w')) (ds := [9]) #[false, false, false, false, false, false, false, false, false, false] (by kernel_rfl) rfl rfl (⟨h3, Lib.hid (Below.refl _ _).drew⟩) (fun hHeld => ?_)
        refine pure_ (i := 0) (N := some 57) (v := ?_) (a' := ?_) #[true, false, false, false, false, false, false, false, false, false] rfl rfl (by kernel_rfl) (fun _ _ _ h => h) (Or.inl ⟨by rfl, ?_⟩) ?_ ?_
        rotate_left
        · intro w'
          go_simp
          with_reducible rfl
        rotate_left
        · simp only [Act.put, List.setIfInBounds_toArray, List.set_cons_zero, List.set_cons_succ, i64_w, i32_w]
          rfl
        refine pure_ (i := 1) (N := some 58) (v := ?_) (a' := ?_) #[true, true, false, false, false, false, false, false, false, false] rfl rfl (by kernel_rfl) (fun _ _ _ h => h) (Or.inl ⟨by rfl, ?_⟩) ?_ ?_
        rotate_left
        · intro w'
          go_simp
          with_reducible rfl
        rotate_left
        · simp only [Act.put, List.setIfInBounds_toArray, List.set_cons_zero, List.set_cons_succ, i64_w, i32_w]
          rfl
        refine pure_ (i := 3) (N := some 60) (v := ?_) (a' := ?_) #[true, true, false, true, false, false, false, false, false, false] rfl rfl (by kernel_rfl) (fun _ _ _ h => h) (Or.inl ⟨by rfl, ?_⟩) ?_ ?_
        rotate_left
        · intro w'
          go_simp
          with_reducible rfl
        rotate_left
        · simp only [Act.put, List.setIfInBounds_toArray, List.set_cons_zero, List.set_cons_succ, i64_w, i32_w]
          rfl
        refine take_ (i := 2) (N := some 59) (v := ?_) (a' := ?_) #[true, true, true, true, false, false, false, false, false, false] rfl rfl (by kernel_rfl) (fun _ _ _ h => h) (Or.inl ⟨by rfl, ?_⟩) hHeld ?_ ?_
        rotate_left
        · rintro w' ⟨s0, s1⟩
          go_simp
          with_reducible rfl
        rotate_left
        · simp only [Act.put, List.setIfInBounds_toArray, List.set_cons_zero, List.set_cons_succ, i64_w, i32_w]
          rfl
        refine one_ (i := 4) (N := some 61) #[true, true, true, true, true, false, false, false, false, false] rfl rfl (by kernel_rfl) (by decide) (fun K hK => ?_)
        refine goes_ Tryd.func57 (by kernel_rfl) rfl #[sv (sa ec)] (by rfl) rfl rfl (by simp only [List.map_toArray, List.map_cons, List.map_nil]; rfl) ?_
        with_reducible refine (sentinel_of (HGr.out.below (HBb.out.trans (hHeld.2.out.mono HBb.out.size))) ec he1 he2).mono ?_
        rintro e w6 ⟨rfl, hb6⟩
        refine ⟨_, rfl, ?_⟩
        have HB6 := Lib.hid hb6
        have HB56 := Lib.hid (belowT hHeld.2.out hb6)
        clear hb6
        refine hK.out _ _ (⟨keepA HB6.out hHeld.1, Lib.hid (belowT hHeld.2.out HB6.out)⟩) (fun hHeld => ?_)
        clear hK K
        refine norm_ (a' := ?_) ?_ ?_
        rotate_left
        · show Act.put _ (some 61) _ = _
          simp only [Act.put, List.setIfInBounds_toArray, List.set_cons_zero, List.set_cons_succ, i64_w, i32_w]
          rfl
        refine pure_ (i := 5) (N := some 62) (v := ?_) (a' := ?_) #[true, true, true, true, true, true, false, false, false, false] rfl rfl (by kernel_rfl) (fun _ _ _ h => h) (Or.inl ⟨by rfl, ?_⟩) ?_ ?_
        rotate_left
        · intro w'
          go_simp
          with_reducible rfl
        rotate_left
        · simp only [Act.put, List.setIfInBounds_toArray, List.set_cons_zero, List.set_cons_succ, i64_w, i32_w]
          rfl
        refine one_ (i := 6) (N := some 63) #[true, true, true, true, true, true, true, false, false, false] rfl rfl (by kernel_rfl) (by decide) (fun K hK => ?_)
        refine value_ (w1 := ?_) (v := ?_) (by rfl) rfl ?_ ?_
        rotate_left 2
        · go_simp
          constructor
          · rfl
          · rfl
        have hbv : (w6.alloc (vbox x3 sa ec)).heap[w6.heap.size]? = some (vbox x3 sa ec) := alloc_blk _ _
        have hb7 : Below w6.heap.size w6 (w6.alloc (vbox x3 sa ec)) := (Below.refl _ _).alloc (Nat.le_refl _) _
        generalize w6.alloc (vbox x3 sa ec) = w7 at hbv hb7 ⊢
        have HBV := Lib.hid hbv
        have HB7 := Lib.hid hb7
        have HB57 := Lib.hid (belowT hHeld.2.out HB7.out)
        clear hbv hb7
        have Hg7 := Lib.hid (keepB HB57.out Hg5.out)
        have q2 : w7.cell? ⟨g, 2, none⟩ = some (.pointer none) := cell_blk Hg7.out rfl
        have r2 : w7.frozen? ⟨g, 2, none⟩ = false := free_blk Hg7.out
        refine hK.out _ _ (⟨keepA HB7.out hHeld.1, HB57⟩) (fun hHeld => ?_)
        clear hK K
        refine norm_ (a' := ?_) ?_ ?_
        rotate_left
        · show Act.put _ (some 63) _ = _
          simp only [Act.put, List.setIfInBounds_toArray, List.set_cons_zero, List.set_cons_succ, i64_w, i32_w]
          rfl
        refine pure_ (i := 7) (N := some 64) (v := ?_) (a' := ?_) #[true, true, true, true, true, true, true, true, false, false] rfl rfl (by kernel_rfl) (fun _ _ _ h => h) (Or.inl ⟨by rfl, ?_⟩) ?_ ?_
        rotate_left
        · intro w'
          go_simp
          with_reducible rfl
        rotate_left
        · simp only [Act.put, List.setIfInBounds_toArray, List.set_cons_zero, List.set_cons_succ, i64_w, i32_w]
          rfl
        refine pure_ (i := 8) (N := some 65) (v := ?_) (a' := ?_) #[true, true, true, true, true, true, true, true, true, false] rfl rfl (by kernel_rfl) (fun _ _ _ h => h) (Or.inl ⟨by rfl, ?_⟩) ?_ ?_
        rotate_left
        · intro w'
          go_simp
          with_reducible rfl
        rotate_left
        · simp only [Act.put, List.setIfInBounds_toArray, List.set_cons_zero, List.set_cons_succ, i64_w, i32_w]
          rfl
        refine last_ (i := 9) (N := none) #[true, true, true, true, true, true, true, true, true, true] rfl rfl (by kernel_rfl) (by decide) (fun K hK => ?_)
        refine skip_ (w1 := ?_) (by rfl) rfl ?_ ?_
        rotate_left
        · go_simp
          rfl
        refine hK.out _ _ ?_
        clear hK K
        refine done_ (by kernel_rfl) ?_
        obtain ⟨w8, hw8⟩ : ∃ w8, w8 = w7.setCell ⟨g, 2, none⟩ (.pointer (some ⟨w6.heap.size, 0, none⟩)) := ⟨_, rfl⟩
        rw [← hw8]
        have Hg8 := Lib.hid (show w8.heap[g]? = some (dbox most (.slice A1 zs.length c1) (some ⟨w6.heap.size, 0, none⟩)) by rw [hw8]; exact set_blk _ Hg7.out)
        have HW8 := Lib.hid hw8
        have h6 : wr.heap.size ≤ w6.heap.size := Nat.le_trans HBb.out.size HB56.out.size
        clear hw8 hHeld q2 r2 HB6 HB7 h3
        have q1 : w8.cell? ⟨g, 1, none⟩ = some (.slice A1 zs.length c1) := cell_blk Hg8.out rfl
        have r1 : w8.frozen? ⟨g, 1, none⟩ = false := free_blk Hg8.out
        go_wp2_with fail
        obtain ⟨w9, hw9⟩ : ∃ w9, w9 = w8.setCell ⟨g, 1, none⟩ (.slice none 0 0) := ⟨_, rfl⟩
        rw [← hw9]
        have Hg9 := Lib.hid (show w9.heap[g]? = some (dbox most (.slice none 0 0) (some ⟨w6.heap.size, 0, none⟩)) by rw [hw9]; exact set_blk _ Hg8.out)
        have HW9 := Lib.hid hw9
        have q2 : w9.cell? ⟨g, 2, none⟩ = some (.pointer (some ⟨w6.heap.size, 0, none⟩)) := cell_blk Hg9.out rfl
        clear hw9 q1 r1
        refine start_ (n := 8) (S := fun w' => w'.cell? ⟨g, 2, none⟩ = some (.pointer (some ⟨w6.heap.size, 0, none⟩))) (ds := []) #[false, false, false, false, false, false, false, false] (by kernel_rfl) rfl rfl (q2) (fun hHeld => ?_)
        refine pure_ (i := 0) (N := some 69) (v := ?_) (a' := ?_) #[true, false, false, false, false, false, false, false] rfl rfl (by kernel_rfl) (fun _ _ _ h => h) (Or.inl ⟨by rfl, ?_⟩) ?_ ?_
        rotate_left
        · intro w'
          go_simp
          with_reducible rfl
        rotate_left
        · simp only [Act.put, List.setIfInBounds_toArray, List.set_cons_zero, List.set_cons_succ, i64_w, i32_w]
          rfl
        refine pure_ (i := 1) (N := some 70) (v := ?_) (a' := ?_) #[true, true, false, false, false, false, false, false] rfl rfl (by kernel_rfl) (fun _ _ _ h => h) (Or.inl ⟨by rfl, ?_⟩) ?_ ?_
        rotate_left
        · intro w'
          go_simp
          with_reducible rfl
        rotate_left
        · simp only [Act.put, List.setIfInBounds_toArray, List.set_cons_zero, List.set_cons_succ, i64_w, i32_w]
          rfl
        refine pure_ (i := 2) (N := some 71) (v := ?_) (a' := ?_) #[true, true, true, false, false, false, false, false] rfl rfl (by kernel_rfl) (fun _ _ _ h => h) (Or.inl ⟨by rfl, ?_⟩) ?_ ?_
        rotate_left
        · intro w'
          go_simp
          with_reducible rfl
        rotate_left
        · simp only [Act.put, List.setIfInBounds_toArray, List.set_cons_zero, List.set_cons_succ, i64_w, i32_w]
          rfl
        refine pure_ (i := 3) (N := some 72) (v := ?_) (a' := ?_) #[true, true, true, true, false, false, false, false] rfl rfl (by kernel_rfl) (fun _ _ _ h => h) (Or.inl ⟨by rfl, ?_⟩) ?_ ?_
        rotate_left
        · intro w'
          go_simp
          with_reducible rfl
        rotate_left
        · simp only [Act.put, List.setIfInBounds_toArray, List.set_cons_zero, List.set_cons_succ, i64_w, i32_w]
          rfl
        refine pure_ (i := 6) (N := some 4) (v := ?_) (a' := ?_) #[true, true, true, true, false, false, true, false] rfl rfl (by kernel_rfl) (fun _ _ _ h => h) (Or.inl ⟨by rfl, ?_⟩) ?_ ?_
        rotate_left
        · intro w'
          go_simp
          with_reducible rfl
        rotate_left
        · simp only [Act.put, List.setIfInBounds_toArray, List.set_cons_zero, List.set_cons_succ, i64_w, i32_w]
          rfl
        refine take_ (i := 4) (N := some 73) (v := ?_) (a' := ?_) #[true, true, true, true, true, false, true, false] rfl rfl (by kernel_rfl) (fun _ _ _ h => h) (Or.inl ⟨by rfl, ?_⟩) hHeld ?_ ?_
        rotate_left
        · intro w' s0
          go_simp
          with_reducible rfl
        rotate_left
        · simp only [Act.put, List.setIfInBounds_toArray, List.set_cons_zero, List.set_cons_succ, i64_w, i32_w]
          rfl
        refine pure_ (i := 5) (N := some 74) (v := ?_) (a' := ?_) #[true, true, true, true, true, true, true, false] rfl rfl (by kernel_rfl) (fun _ _ _ h => h) (Or.inl ⟨by rfl, ?_⟩) ?_ ?_
        rotate_left
        · intro w'
          go_simp
          with_reducible rfl
        rotate_left
        · simp only [Act.put, List.setIfInBounds_toArray, List.set_cons_zero, List.set_cons_succ, i64_w, i32_w]
          rfl
        refine pure_ (i := 7) (N := some 5) (v := ?_) (a' := ?_) #[true, true, true, true, true, true, true, true] rfl rfl (by kernel_rfl) (fun _ _ _ h => h) (Or.inl ⟨by rfl, ?_⟩) ?_ ?_
        rotate_left
        · intro w'
          go_simp
          with_reducible rfl
        rotate_left
        · simp only [Act.put, List.setIfInBounds_toArray, List.set_cons_zero, List.set_cons_succ, i64_w, i32_w]
          rfl
        refine done_ (by kernel_rfl) ?_
        clear hHeld
        go_wp2_with fail
        rw [Exit.noGoto_ret]
        go_ret2
        refine ⟨u7, vv w6.heap.size 0, .slice none 0 0, rfl, ?_⟩
        rw [HW9.out, HW8.out]
        exact (fed_deadM HB2.out HK2.out HR.out.below hgz hg0 HR.out.out HC.out hz (HBb.out.trans (HB57.out.mono HBb.out.size)) Hg7.out HBV.out h6).drew
end Go.Proofs.YtfddhipdedcacaaDoor
/-
  Feed of a decoder that was fed xs in all: each payload is a row of its own.
-/
namespace Go.Proofs.YtfddhipdedcacaaDoor
open Go.RowKit Go.Proofs.YtfddhipdedcacaaDoorW.PrintWords Go.Proofs.YtfddhipdedcacaaDoorW.PrintLast Go.Proofs.YtfddhipdedcacaaDoor.PFeedPieces
set_option linter.unusedVariables false
set_option linter.unusedSimpArgs false
/-- What a Feed leaves of a decoder that was fed xs, and gives for ys. -/
structure FedM (sa : Nat → Addr) (w0 w w' : World) (g : Nat) (most : Int) (xs ys : List Int) (v : Value) (b : Nat) (fv v' : Value) (b' : Nat) : Prop where
  dec : DecV sa w0 w' g most (xs ++ ys) v' b'
  below : Below w0.heap.size w0 w'
  kept : Kept w w' (fun k => k = g ∨ some k = v.ownBlock)
  frames : NO w' w.heap.size (fun k => w.heap.size ≤ k ∧ some k ≠ v'.ownBlock) fv (newX most xs ys)
  row : v'.ownBlock = v.ownBlock ∨ v'.ownBlock = none ∨ ∃ k, v'.ownBlock = some k ∧ w.heap.size ≤ k
  same : codeX most xs ≠ 0 → b' = b
theorem feed_decM' {sa : Nat → Addr} {w0 w : World} (hG : Good w0 sa) (hL : Lawful w0) (g : Nat) (most : Int) (xs : List Int) (v : Value) (b : Nat) (hb0 : Below w0.heap.size w0 w) (hD : DecV sa w0 w g most xs v b) (hg0 : w0.heap.size ≤ g) (hx : ∀ x ∈ xs, 0 ≤ x ∧ x ≤ 255) (A : Option Addr) (n c : Nat) (ys : List Int) (hB : Bs w A n c ys) (m1 : 1 ≤ most) (m2 : most ≤ 65536) (hsz : (restX most xs).length + n ≤ 1099511627776) :
    Calls Tryd.prog 33 #[.pointer (some ⟨g, 0, none⟩), .slice A n c] w fun e w' => ∃ fv v' b', e = .returned (.tuple #[fv, errX most (xs ++ ys) b']) ∧ FedM sa w0 w w' g most xs ys v b fv v' b' := by
  by_cases hc : codeX most xs = 0
  · obtain ⟨hg, hO⟩ := hD.live hc
    have hl := restX_len most xs
    refine (feed_anyM hG hL g most v (restX most xs) ys hb0 hg hg0 hO (fun x h => hx x (cut_sub most xs x h)) A n c hB m1 m2 (by omega)).mono ?_
    rintro e w' ⟨fv, ev, v', rfl, hF⟩
    obtain ⟨e1, e2, e3, e4⟩ := app_live (most := most) (ys := ys) hc
    have hN : newX most xs ys = (cut most (restX most xs ++ ys)).1 := by unfold newX; rw [if_pos hc]; rfl
    by_cases hc2 : codeX most (xs ++ ys) = 0
    · obtain ⟨rfl, h1, h2⟩ := hF.live (e3.symm.trans hc2)
      refine ⟨fv, v', 0, by unfold errX; rw [if_pos hc2], ⟨fun _ => ⟨h1, by rw [e2]; exact h2⟩, fun h => absurd hc2 h⟩, hF.below, hF.kept, by rw [hN]; exact hF.frames, hF.row, fun h => absurd hc h⟩
    · obtain ⟨b', rfl, h1, h2, h3, h4⟩ := hF.dead (fun h => hc2 (e3.trans h))
      refine ⟨fv, v', b', by unfold errX; rw [if_neg hc2], ⟨fun h => absurd h hc2, fun _ => ⟨h1, by rw [e3, e4]; exact h2, h4⟩⟩, hF.below, hF.kept, by rw [hN]; exact hF.frames, hF.row, fun h => absurd hc h⟩
  · obtain ⟨h1, h2, h3⟩ := hD.dead hc
    refine (feed_died g b (.slice A n c) (cell_blk h1 rfl)).mono ?_
    rintro e w' ⟨rfl, hb⟩
    have e0 := app_dead (ys := ys) hc
    have ec : codeX most (xs ++ ys) = codeX most xs := by unfold codeX; rw [e0]
    have es : stX most (xs ++ ys) = stX most xs := by unfold stX; rw [e0]
    refine ⟨.slice none 0 0, v, b, by unfold errX; rw [ec, if_neg hc], ⟨fun h => absurd (ec ▸ h) hc, fun _ => ⟨(hb.block _ hD.glt).trans h1, by rw [ec, es]; exact (hb.block _ (hD.blt hc)).trans h2, h3⟩⟩, belowT hb0 (hb.mono hb0.size |> fun h => hb), (Kept.refl w _).below hb, ?_, .inl rfl, fun _ => rfl⟩
    unfold newX
    rw [if_neg hc]
    exact NO_nil _ _ _
theorem feed_decM {sa : Nat → Addr} {w0 w : World} (hG : Good w0 sa) (hL : Lawful w0) (g : Nat) (most : Int) (xs : List Int) (v : Value) (b : Nat) (hb0 : Below w0.heap.size w0 w) (hD : DecV sa w0 w g most xs v b) (hg0 : w0.heap.size ≤ g) (hx : ∀ x ∈ xs, 0 ≤ x ∧ x ≤ 255) (A : Option Addr) (n c : Nat) (ys : List Int) (hB : Bs w A n c ys) (m1 : 1 ≤ most) (m2 : most ≤ 65536) (hsz : xs.length + n ≤ 1099511627776) :
    Calls Tryd.prog 33 #[.pointer (some ⟨g, 0, none⟩), .slice A n c] w fun e w' => ∃ fv v' b', e = .returned (.tuple #[fv, errX most (xs ++ ys) b']) ∧ FedM sa w0 w w' g most xs ys v b fv v' b' :=
  feed_decM' hG hL g most xs v b hb0 hD hg0 hx A n c ys hB m1 m2 (by have := restX_len most xs; omega)
end Go.Proofs.YtfddhipdedcacaaDoor
/-
  FeedMemory's lists: what was kept, what is wanted, the lists that Feed gave.
-/
namespace Go.Proofs.YtfddhipdedcacaaDoor
open Go.RowKit Go.Proofs.YtfddhipdedcacaaDoorW.PrintWords Go.Proofs.YtfddhipdedcacaaDoor.PFeedPieces
set_option linter.unusedVariables false
set_option linter.unusedSimpArgs false
section
variable {α β : Type} {d : Kd α} {d' : Kd β} {e e' base base' : Nat} {ok ok' : Nat → Prop} {W w1 : World} {v v' u u1 : Value} {xs : List α} {ys : List β}
theorem N_grow (h : Kd.N d e W base ok v xs) (hg : W.grownBy w1 u.ownBlock) (hat : u1.ownBlock = u.ownBlock ∨ ∃ b, u1.ownBlock = some b ∧ W.heap.size ≤ b) (hne : ∀ k, ok k → some k ≠ u.ownBlock) (hok : ∀ k, ok k → some k ≠ u1.ownBlock → ok' k) : Kd.N d e w1 base ok' v xs := by
  refine Kd.N_mono (Kd.N_step (Kd.N_bound h) fun k hk hlt => hg.block k hlt (hne k hk.1)) fun k hk => hok k hk.1 fun e => ?_
  rcases hat with h' | ⟨b, hb, hle⟩
  · exact hne k hk.1 (e.trans h')
  · rw [hb] at e
    have := Option.some.inj e
    have := hk.2
    omega
theorem raw_ok {sz : Nat} {rows : List (List Value)} (h : Kd.N (Kd.raw sz) e W base ok v rows) (hk : ∀ k, v.ownBlock = some k → ok' k) : Kd.N (Kd.raw sz) e W base ok' v rows := by
  obtain ⟨h0, rows', hl, hR, hf⟩ := h
  exact ⟨hk, rows', hl, hR, fun j x c hx hc W' _ => by
    have h1 : (Kd.raw sz).K W x c := Kd.FK_now (hf j x c hx hc)
    exact h1⟩
theorem N_ty (h : Kd.N d e W base ok v xs) (h' : Kd.N d' e' W base' ok' v' ys) (hne : e ≠ e') : ∀ k, v.ownBlock = some k → some k ≠ v'.ownBlock := fun k hk e => by
  obtain ⟨c1, h1⟩ := Kd.N_typed h k hk
  obtain ⟨c2, h2⟩ := Kd.N_typed h' k e.symm
  rw [h1] at h2
  simp only [Option.some.injEq, Obj.cells.injEq] at h2
  exact hne h2.2.1
theorem FrD.away' {ps : List (Fr × Value)} {okN : Nat → Prop} (h : FrD W base ok ps) {b' : Nat} (hN : Kd.N d e W b' okN v xs) (he : e ≠ 5) : FrD W base (fun k => ok k ∧ some k ≠ v.ownBlock) ps := by
  cases hu : v.ownBlock with
  | none => exact h.mono fun k hk => ⟨hk, by simp⟩
  | some g =>
    obtain ⟨cs, hc⟩ := Kd.N_typed hN g hu
    exact (h.typed hc he).mono fun k hk => ⟨hk.1, fun e => hk.2 (Option.some.inj e)⟩
end
/-- kv: the frames kept (Qk); Qd: whose payloads are rows of their own; wv: the frames wanted; lv: the lists (gl) that Feed gave; gs: those that lie there. -/
structure MRow (W : World) (base : Nat) (P : Nat → Prop) (kv wv lv : Value) (Qk Qd : List (Fr × Value)) (fs : List Fr) (gl gs : List Value) : Prop where
  kept : Kd.N (Kd.raw 6) 45 W base P kv (Qk.map cellsOf)
  dat : FrD W base P Qd
  want : Kd.N kFr 45 W base (fun k => P k ∧ some k ≠ kv.ownBlock ∧ some k ≠ lv.ownBlock) wv fs
  lists : Kd.N (Kd.raw 1) 56 W base P lv (gl.map fun x => [x])
  gots : ∀ gv ∈ gs, ∃ rows, Kd.N (Kd.raw 6) 45 W base (fun k => P k ∧ some k ≠ kv.ownBlock ∧ some k ≠ wv.ownBlock) gv rows
  sep : gs.Pairwise fun a b => ∀ k, a.ownBlock = some k → b.ownBlock ≠ some k
section
variable {W w1 : World} {base : Nat} {P P' : Nat → Prop} {kv kv1 wv wv1 lv lv1 gv : Value} {Qk Qd Qn : List (Fr × Value)} {fs fn : List Fr} {gl gs : List Value}
theorem MRow.start (W : World) (base : Nat) (P : Nat → Prop) : MRow W base P (.slice none 0 0) (.slice none 0 0) (.slice none 0 0) [] [] [] [] [] :=
  ⟨Kd.N_nil _ _ _ _ _, FrD.nil _ _ _, Kd.N_nil _ _ _ _ _, Kd.N_nil _ _ _ _ _, fun gv hg => (by cases hg), List.Pairwise.nil⟩
theorem MRow.step (h : MRow W base P kv wv lv Qk Qd fs gl gs) (hm : ∀ k, P k → k < W.heap.size → w1.heap[k]? = W.heap[k]?) : MRow w1 base P kv wv lv Qk Qd fs gl gs :=
  ⟨Kd.N_step h.kept hm, h.dat.step hm, Kd.N_step h.want fun k hk => hm k hk.1, Kd.N_step h.lists hm, fun gv hg => by
    obtain ⟨r, h1⟩ := h.gots gv hg
    exact ⟨r, Kd.N_step h1 fun k hk => hm k hk.1⟩, h.sep⟩
theorem MRow.below (h : MRow W base P kv wv lv Qk Qd fs gl gs) (hb : Below W.heap.size W w1) : MRow w1 base P kv wv lv Qk Qd fs gl gs := h.step fun k _ hk => hb.block k hk
theorem MRow.bd (h : MRow W base P kv wv lv Qk Qd fs gl gs) (hP : ∀ k, P k → k < W.heap.size → P' k) : MRow W base P' kv wv lv Qk Qd fs gl gs :=
  ⟨Kd.N_mono (Kd.N_bound h.kept) fun k hk => hP k hk.1 hk.2, h.dat.bound.mono fun k hk => hP k hk.1 hk.2, Kd.N_mono (Kd.N_bound h.want) fun k hk => ⟨hP k hk.1.1 hk.2, hk.1.2⟩, Kd.N_mono (Kd.N_bound h.lists) fun k hk => hP k hk.1 hk.2, fun gv hg => by
    obtain ⟨r, h1⟩ := h.gots gv hg
    exact ⟨r, Kd.N_mono (Kd.N_bound h1) fun k hk => ⟨hP k hk.1.1 hk.2, hk.1.2⟩⟩, h.sep⟩
/-- Behind a Feed. -/
theorem MRow.fed (h : MRow W base P kv wv lv Qk Qd fs gl gs) (hm : ∀ k, P k → k < W.heap.size → w1.heap[k]? = W.heap[k]?) (hP : ∀ k, P k → k < W.heap.size → P' k) {rows : List (List Value)} (hg : Kd.N (Kd.raw 6) 45 w1 base (fun k => P' k ∧ W.heap.size ≤ k) gv rows) (hd : FrD w1 base (fun k => P' k ∧ W.heap.size ≤ k) Qn) :
    MRow w1 base P' kv wv lv Qk (Qd ++ Qn) fs gl (gs ++ [gv]) := by
  refine ⟨Kd.N_mono (Kd.N_step (Kd.N_bound h.kept) fun k hk hl => hm k hk.1 hl) fun k hk => hP k hk.1 hk.2, ?_, Kd.N_mono (Kd.N_step (Kd.N_bound h.want) fun k hk hl => hm k hk.1.1 hl) fun k hk => ⟨hP k hk.1.1 hk.2, hk.1.2⟩, Kd.N_mono (Kd.N_step (Kd.N_bound h.lists) fun k hk hl => hm k hk.1 hl) fun k hk => hP k hk.1 hk.2, fun x hx => ?_, List.pairwise_append.2 ⟨h.sep, List.pairwise_singleton _ _, fun a ha b hb k e e' => ?_⟩⟩
  · exact FrD.add ((h.dat.bound.step fun k hk hl => hm k hk.1 hl).mono fun k hk => ⟨hP k hk.1 hk.2, hk.2⟩) hd
  · rcases List.mem_append.1 hx with hx | hx
    · obtain ⟨r, h1⟩ := h.gots x hx
      exact ⟨r, Kd.N_mono (Kd.N_step (Kd.N_bound h1) fun k hk hl => hm k hk.1.1 hl) fun k hk => ⟨hP k hk.1.1 hk.2, hk.1.2⟩⟩
    · rw [List.mem_singleton.1 hx]
      refine ⟨rows, raw_ok hg fun k hk => ⟨(hg.1 k hk).1, fun e => ?_, fun e => ?_⟩⟩
      · have := Kd.N_lt h.kept k e.symm
        have := (hg.1 k hk).2
        omega
      · have := Kd.N_lt h.want k e.symm
        have := (hg.1 k hk).2
        omega
  · obtain ⟨r, h1⟩ := h.gots a ha
    have h2 := Kd.N_lt h1 k e
    rw [List.mem_singleton.1 hb] at e'
    have := (hg.1 k e').2
    omega
/-- kept grew. -/
theorem MRow.addK (h : MRow W base P kv wv lv Qk Qd fs gl gs) (hN : Kd.N (Kd.raw 6) 45 w1 base P kv1 (Qn.map cellsOf)) (hg : W.grownBy w1 kv.ownBlock) (hat : kv1.ownBlock = kv.ownBlock ∨ ∃ b, kv1.ownBlock = some b ∧ W.heap.size ≤ b) : MRow w1 base P kv1 wv lv Qn Qd fs gl gs :=
  ⟨hN, ((h.dat.away' h.kept (by decide)).step fun k hk hl => hg.block k hl hk.2).mono fun k hk => hk.1, N_grow h.want hg hat (fun k hk => hk.2.1) fun k hk hn => ⟨hk.1, hn, hk.2.2⟩,
    N_grow (raw_ok (ok' := fun k => P k ∧ some k ≠ kv.ownBlock) h.lists fun k hk => ⟨h.lists.1 k hk, N_ty h.lists h.kept (by decide) k hk⟩) hg hat (fun k hk => hk.2) fun k hk _ => hk.1, fun gv hgv => by
    obtain ⟨r, h1⟩ := h.gots gv hgv
    exact ⟨r, N_grow h1 hg hat (fun k hk => hk.2.1) fun k hk hn => ⟨hk.1, hn, hk.2.2⟩⟩, h.sep⟩
/-- want grew. -/
theorem MRow.addW (h : MRow W base P kv wv lv Qk Qd fs gl gs) (hN : Kd.N kFr 45 w1 base (fun k => P k ∧ some k ≠ kv.ownBlock ∧ some k ≠ lv.ownBlock) wv1 fn) (hg : W.grownBy w1 wv.ownBlock) (hat : wv1.ownBlock = wv.ownBlock ∨ ∃ b, wv1.ownBlock = some b ∧ W.heap.size ≤ b) : MRow w1 base P kv wv1 lv Qk Qd fn gl gs :=
  ⟨N_grow (raw_ok (ok' := fun k => P k ∧ some k ≠ wv.ownBlock) h.kept fun k hk => ⟨h.kept.1 k hk, fun e => (h.want.1 k e.symm).2.1 hk.symm⟩) hg hat (fun k hk => hk.2) fun k hk _ => hk.1, ((h.dat.away' h.want (by decide)).step fun k hk hl => hg.block k hl hk.2).mono fun k hk => hk.1, hN,
    N_grow (raw_ok (ok' := fun k => P k ∧ some k ≠ wv.ownBlock) h.lists fun k hk => ⟨h.lists.1 k hk, N_ty h.lists h.want (by decide) k hk⟩) hg hat (fun k hk => hk.2) fun k hk _ => hk.1, fun gv hgv => by
    obtain ⟨r, h1⟩ := h.gots gv hgv
    exact ⟨r, N_grow h1 hg hat (fun k hk => hk.2.2) fun k hk hn => ⟨hk.1, hk.2.1, hn⟩⟩, h.sep⟩
/-- lists grew. -/
theorem MRow.addL (h : MRow W base P kv wv lv Qk Qd fs gl gs) {gn : List Value} (hN : Kd.N (Kd.raw 1) 56 w1 base P lv1 (gn.map fun x => [x])) (hg : W.grownBy w1 lv.ownBlock) (hat : lv1.ownBlock = lv.ownBlock ∨ ∃ b, lv1.ownBlock = some b ∧ W.heap.size ≤ b) : MRow w1 base P kv wv lv1 Qk Qd fs gn gs :=
  ⟨N_grow (raw_ok (ok' := fun k => P k ∧ some k ≠ lv.ownBlock) h.kept fun k hk => ⟨h.kept.1 k hk, N_ty h.kept h.lists (by decide) k hk⟩) hg hat (fun k hk => hk.2) fun k hk _ => hk.1, ((h.dat.away' h.lists (by decide)).step fun k hk hl => hg.block k hl hk.2).mono fun k hk => hk.1,
    N_grow h.want hg hat (fun k hk => hk.2.2) fun k hk hn => ⟨hk.1, hk.2.1, hn⟩, hN, fun gv hgv => by
    obtain ⟨r, h1⟩ := h.gots gv hgv
    exact ⟨r, N_grow (raw_ok (ok' := fun k => (P k ∧ some k ≠ kv.ownBlock ∧ some k ≠ wv.ownBlock) ∧ some k ≠ lv.ownBlock) h1 fun k hk => ⟨h1.1 k hk, N_ty h1 h.lists (by decide) k hk⟩) hg hat (fun k hk => hk.2) fun k hk _ => hk.1⟩, h.sep⟩
end
end Go.Proofs.YtfddhipdedcacaaDoor
/-
  FeedAnswers, walked.
-/
namespace Go.Proofs.YtfddhipdedcacaaDoor
open Go.RowKit Go.Proofs.YtfddhipdedcacaaDoorW.PrintWords Go.Proofs.YtfddhipdedcacaaDoorW.PrintLast Go.Proofs.YtfddhipdedcacaaDoorW.PrintMore Go.Proofs.YtfddhipdedcacaaDoor.PFeedPieces
set_option linter.unusedVariables false
set_option linter.unusedSimpArgs false
/-- How many bytes the first j pieces have. -/
def totj (ps : List (List Int)) (j : Nat) : Nat := ((ps.take j).map List.length).sum
theorem totj_succ {ps : List (List Int)} {j : Nat} (h : j < ps.length) : totj ps (j + 1) = totj ps j + (ps.getD j []).length := by
  unfold totj
  rw [List.take_succ_eq_append_getElem h, List.map_append, List.sum_append]
  simp [List.getD_eq_getElem?_getD, List.getElem?_eq_getElem h]
theorem totj_le (ps : List (List Int)) (j : Nat) : totj ps j ≤ (ps.map List.length).sum := by
  unfold totj
  have h : (ps.map List.length).sum = ((ps.take j).map List.length).sum + ((ps.drop j).map List.length).sum := by
    rw [← List.sum_append, ← List.map_append, List.take_append_drop]
  omega
/-- What stays through the law. -/
structure FAns (sa : Nat → Addr) (A : Option Addr) (n c : Nat) (ps : List (List Int)) (w : World) : Prop where
  pcs : Pcs w A n c ps
  good : Good w sa
  law : Lawful w
  ert : ErT w
theorem FAns.next {sa : Nat → Addr} {A : Option Addr} {n c : Nat} {ps : List (List Int)} {w w' : World} (h : FAns sa A n c ps w) (hb : Below w.heap.size w w') : FAns sa A n c ps w' :=
  ⟨h.pcs.next hb, h.good.below hb, h.law.below hb, keepA hb h.ert⟩
/-- The loop's state of a decoder: zs is what the reference keeps. -/
structure FStep (sa : Nat → Addr) (w1 wr : World) (g gm : Nat) (most : Int) (ps : List (List Int)) (j : Nat) (zs : List Int) (v : Value) (b : Nat) (M : Option Addr) (nm cm : Nat) : Prop where
  below : Below w1.heap.size w1 wr
  dec : DecV sa w1 wr g most zs v b
  box : wr.heap[gm]? = some (rdec most M nm cm)
  fed : FBs wr (fun k => k ≠ g ∧ some k ≠ v.ownBlock ∧ k ≠ gm) M nm cm zs
  len : zs.length ≤ totj ps j
  gm0 : w1.heap.size ≤ gm
theorem FStep.gm_ne {sa : Nat → Addr} {w1 wr : World} {g gm j b nm cm : Nat} {most : Int} {ps : List (List Int)} {zs : List Int} {v : Value} {M : Option Addr} (h : FStep sa w1 wr g gm most ps j zs v b M nm cm) : gm ≠ g ∧ some gm ≠ v.ownBlock := by
  have hb := h.box
  refine ⟨fun e => ?_, fun e => ?_⟩
  · subst e
    by_cases hc : codeX most zs = 0
    · rw [(h.dec.live hc).1] at hb; simp at hb
    · rw [(h.dec.dead hc).1] at hb; simp at hb
  · by_cases hc : codeX most zs = 0
    · obtain ⟨cs, h1⟩ := own_typed (h.dec.live hc).2 gm e.symm
      rw [h1] at hb; simp at hb
    · rw [(h.dec.dead hc).2.2] at e; simp [Value.ownBlock] at e
theorem FStep.start {sa : Nat → Addr} {w1 w3 : World} {g : Nat} {most : Int} {ps : List (List Int)} (hb : Below w1.heap.size w1 w3) (hd : DecV sa w1 w3 g most [] (.slice none 0 0) 0) : FStep sa w1 (w3.alloc (.cells #[.int .i64 most, .slice none 0 0] 53)) g w3.heap.size most ps 0 [] (.slice none 0 0) 0 none 0 0 :=
  ⟨hb.alloc hb.size _, hd.below ((Below.refl _ _).alloc (Nat.le_refl _) _), alloc_at _ _, fun _ _ => ⟨rfl, by omega, by omega, (fun x hx => by cases hx), fun _ => ⟨rfl, rfl⟩, fun h => absurd h (by omega)⟩, by simp, hb.size⟩
set_option maxRecDepth 100000 in
set_option maxHeartbeats 4000000 in
theorem feedAnswers_walk {sa : Nat → Addr} {w : World} (hG : Good w sa) (hL : Lawful w) (hT : ErT w) (most : Int) (A : Option Addr) (n c : Nat) (ps : List (List Int)) (hP : Pcs w A n c ps) (hs : (ps.map List.length).sum + n ≤ 100000000) :
    Calls Tryd.prog 9 #[.int .i64 most, .slice A n c] w fun e w' => e = .returned (.bool true) ∧ Below w.heap.size w w' := by
  have hS : FAns sa A n c ps w := ⟨hP, hG, hL, hT⟩
  have HU := Lib.hid (show Up w (FAns sa A n c ps) from fun W hb => hS.next hb)
  have hf := fixed_any hG hL hT
  obtain rfl := hP.len
  have hcap := hP.cap
  have HSZ := Lib.hid hs
  have hpn : ps.length ≤ 100000000 := by omega
  clear hS hP hG hL hT hs
  go_enter Tryd.func9, Tryd.ntmps9
  go_wp2_with fail
  refine hf.mono ?_
  rintro e w1 ⟨rfl, hb1⟩
  have HB1 := Lib.hid hb1
  clear hb1 hf
  by_cases hmm : most < 1 ∨ 65536 < most
  · go_wp2_with fail
    refine (new_no (HU.out.at_ HB1.out).good most hmm).mono ?_
    rintro e w2 ⟨rfl, hd2⟩
    have HB2 := Lib.hid (hd2.below w1.heap.size)
    clear hd2
    go_wp2_with fail
    refine (rnew_no most _ hmm).mono ?_
    rintro e w3 ⟨rfl, hb3⟩
    have HB3 := Lib.hid (belowT HB2.out hb3)
    clear hb3
    have HB4 := Lib.hid (HB3.out.alloc HB3.out.size (.cells #[.int .i64 0, .slice none 0 0] 53))
    have HM4 := Lib.hid (alloc_at w3 (.cells #[.int .i64 0, .slice none 0 0] 53))
    have hz3 : w1.heap.size ≤ w3.heap.size := HB3.out.size
    go_wp2_with fail
    refine (code_any (HU.out.at_ (belowT HB1.out HB4.out)).good (.inr (.inl ⟨by omega, by omega, rfl⟩) : EV sa _ 2 0 (sv (sa 2)))).mono ?_
    rintro e w4 ⟨rfl, rfl⟩
    go_wp2_with fail
    go_loopw [42] (fun jj wr => ∃ (j : Nat), jj = .int .i64 j ∧ j ≤ ps.length ∧ Hid (Below w1.heap.size w1 wr) ∧ Hid (wr.heap[w3.heap.size]? = some (rdec 0 none 0 0))) (fun jj _ => ps.length - (intOf jj).toNat)
    case atStart => exact ⟨0, rfl, by omega, HB4, HM4⟩
    case round =>
      obtain ⟨j, rfl, hj, HB, HM⟩ := hrel
      by_cases hlt : j < ps.length
      · have hd1 : decide ((j : Int) < ps.length) = true := by simp; omega
        have hk0 : (0 : Int) ≤ (j : Int) := by omega
        have hk1 : (j : Int) < (ps.length : Int) := by omega
        have HUr := Lib.hid (HU.out.next (belowT HB1.out HB.out))
        obtain ⟨bp, op, rfl, hrd⟩ := HUr.out.now.pcs.rd (by omega)
        obtain ⟨Ap, cp, hcell, hBp⟩ := hrd j hlt
        obtain ⟨ys, hys⟩ : ∃ ys, ys = ps.getD j [] := ⟨_, rfl⟩
        rw [← hys] at hcell hBp
        have HBP := Lib.hid hBp
        have HYX := Lib.hid hBp.byt
        have hbd : ys.length ≤ 100000000 := by
          have h1 := totj_succ hlt
          have h2 := totj_le ps (j + 1)
          have h4 := HSZ.out
          rw [← hys] at h1
          omega
        have m0 : wr.cell? ⟨w3.heap.size, 0, none⟩ = some (.int .i64 0) := cell_blk HM.out rfl
        have m1' : wr.cell? ⟨w3.heap.size, 1, none⟩ = some (.slice none 0 0) := cell_blk HM.out rfl
        clear hrd hys hBp
        go_wp2_with fail
        refine (rfeed_zero _).mono ?_
        rintro e w4 ⟨rfl, hb4⟩
        have hB4 := HBP.out.next hb4
        have HBP4 := Lib.hid hB4
        have HBr4 := Lib.hid hb4
        have HM4' := Lib.hid (keepB hb4 HM.out)
        clear hb4 hB4 m0 m1'
        go_upto_region 11 with fail
        obtain ⟨w5, hw5⟩ : ∃ w5, w5 = w4.alloc (.cells #[.int .i64 0, .slice none 0 0] 53) := ⟨_, rfl⟩
        have hb45 : Below w4.heap.size w4 w5 := by rw [hw5]; exact (Below.refl _ _).alloc (Nat.le_refl _) _
        have hn5 : w5.heap[w4.heap.size]? = some (rdec 0 none 0 0) := by rw [hw5]; exact alloc_at _ _
        rw [← hw5]
        have HB5 := Lib.hid (belowT HB.out (belowT HBr4.out hb45))
        have HB45 := Lib.hid hb45
        have HN5 := Lib.hid hn5
        clear hw5 hb45 hn5
        go_wp2_with (at_builtin; go_loud (refine append_at (w0 := w1) rfl _ _ rfl (.slice (some ⟨w5.heap.size, 0, none⟩) 0 0) [] rfl (own_new w5 w1.heap.size [] HB5.out.size (by simp)) Ap ys.length cp ys rfl ((HBP4.out.next HB45.out).next ((Below.refl _ _).alloc (Nat.le_refl _) _)) (by simp <;> omega) (HB5.out.alloc HB5.out.size _) ?_; intro va wa hoa hba2 hga _; rw [List.nil_append] at hoa; obtain ⟨Aa, ca, rfl, hqa⟩ := Own.bs hoa HYX.out; have hbW : Below w5.heap.size w5 wa := ((Below.refl _ _).alloc (Nat.le_refl _) _).grown hga (by simp) (fun k hk => by simp [Value.ownBlock] at hk; omega); have HB4a := Lib.hid (belowT HB45.out hbW); have HNa := Lib.hid (keepB hbW HN5.out); have HBa := Lib.hid hba2; clear hoa hba2 hga hqa hbW))
        refine (feed_nilp (HU.out.at_ (belowT HB1.out HBa.out)).good _).mono ?_
        rintro e w6 ⟨rfl, hb6⟩
        have HB6 := Lib.hid (belowT HBa.out hb6)
        have hm6 := keepB hb6 (keepB HB4a.out HM4'.out)
        have hn6 := keepB hb6 HNa.out
        have HM6 := Lib.hid hm6
        have c0 : w6.cell? ⟨w4.heap.size, 0, none⟩ = some (.int .i64 0) := cell_blk hn6 rfl
        have c1 : w6.cell? ⟨w4.heap.size, 1, none⟩ = some (.slice none 0 0) := cell_blk hn6 rfl
        have k0 : w6.cell? ⟨w3.heap.size, 0, none⟩ = some (.int .i64 0) := cell_blk hm6 rfl
        have k1 : w6.cell? ⟨w3.heap.size, 1, none⟩ = some (.slice none 0 0) := cell_blk hm6 rfl
        have k2 : ∀ i, w6.frozen? ⟨w3.heap.size, i, none⟩ = false := fun i => free_blk hm6
        clear hb6 hm6 hn6
        go_upto_region 13 with fail
        obtain ⟨w7, hw7⟩ : ∃ w7, w7 = (w6.setCell ⟨w3.heap.size, 0, none⟩ (.int .i64 0)).setCell ⟨w3.heap.size, 1, none⟩ (.slice none 0 0) := ⟨_, rfl⟩
        have hm7 : w7.heap[w3.heap.size]? = some (rdec 0 none 0 0) := by rw [hw7]; exact set_blk _ (set_blk _ HM6.out)
        have hb7 : Below w1.heap.size w1 w7 := by rw [hw7]; exact (HB6.out.setCell hz3 _).setCell hz3 _
        rw [← hw7]
        have HB7 := Lib.hid hb7
        have HM7 := Lib.hid hm7
        have k0' : w7.cell? ⟨w3.heap.size, 0, none⟩ = some (.int .i64 0) := cell_blk hm7 rfl
        have k1' : w7.cell? ⟨w3.heap.size, 1, none⟩ = some (.slice none 0 0) := cell_blk hm7 rfl
        clear hm7 hb7 hw7 c0 c1 k0 k1 k2
        go_wp2_with fail
        refine told_zero.mono ?_
        rintro e w8 ⟨rfl, hb8⟩
        obtain ⟨w9, hw9⟩ : ∃ w9, w9 = w8.alloc (.cells #[.slice none 0 0, .int .i64 0, .int .i64 0, .int .u32 0] 66) := ⟨_, rfl⟩
        have hb79 : Below w7.heap.size w7 w9 := by rw [hw9]; exact hb8.alloc hb8.size _
        have ht9 : w9.heap[w8.heap.size]? = some (rtold (.slice none 0 0) 0 0 0) := by rw [hw9]; exact alloc_at _ _
        have HB79 := Lib.hid hb79
        have HT9 := Lib.hid ht9
        have HW9 := Lib.hid hw9
        clear hb8 hb79 ht9 hw9 k0' k1'
        go_wp2_with fail
        rw [← HW9.out]
        refine (sameFrames_any (fs := []) rfl (Kd.F_nil _ _ _) (Kd.F_nil _ _ _) (by simp)).mono ?_
        rintro e wb ⟨rfl, hbb⟩
        have hb7b := belowT HB79.out hbb
        have HSb := Lib.hid hb7b
        have htb := keepB hbb HT9.out
        have HTB := Lib.hid htb
        have y3 : wb.cell? ⟨w8.heap.size, 3, none⟩ = some (.int .u32 0) := cell_blk htb rfl
        have HU7 := Lib.hid (HU.out.next (belowT HB1.out HB7.out))
        clear hbb hb7b htb
        go_wp2_with fail
        refine (fails_one (HU7.out.at_ HSb.out).good 0).mono ?_
        rintro e wc ⟨rfl, hbc⟩
        have HSc := Lib.hid (belowT HSb.out hbc)
        have htc := keepB hbc HTB.out
        have hmc := keepB HSc.out HM7.out
        have x0 : wc.cell? ⟨w3.heap.size, 0, none⟩ = some (.int .i64 0) := cell_blk hmc rfl
        have x1 : wc.cell? ⟨w3.heap.size, 1, none⟩ = some (.slice none 0 0) := cell_blk hmc rfl
        have x2 : wc.cell? ⟨w8.heap.size, 2, none⟩ = some (.int .i64 0) := cell_blk htc rfl
        have x3 : wc.cell? ⟨w8.heap.size, 3, none⟩ = some (.int .u32 0) := cell_blk htc rfl
        clear hbc htc hmc y3
        go_wp2_with fail
        refine start_ (n := 22) (S := fun w' => w'.cell? ⟨w3.heap.size, 0, none⟩ = some (.int .i64 0) ∧ w'.cell? ⟨w3.heap.size, 1, none⟩ = some (.slice none 0 0) ∧ w'.cell? ⟨w8.heap.size, 2, none⟩ = some (.int .i64 0) ∧ w'.cell? ⟨w8.heap.size, 3, none⟩ = some (.int .u32 0) ∧ Hid (Below wc.heap.size wc w')) (ds := []) #[false, false, false, false, false, false, false, false, false, false, false, false, false, false, false, false, false, false, false, false, false, false] (by kernel_rfl) rfl rfl (⟨x0, x1, x2, x3, Lib.hid (Below.refl _ _).drew⟩) (fun hHeld => ?_)
        refine pure_ (i := 0) (N := some 76) (v := ?_) (a' := ?_) #[true, false, false, false, false, false, false, false, false, false, false, false, false, false, false, false, false, false, false, false, false, false] rfl rfl (by kernel_rfl) (fun _ _ _ h => h) (Or.inl ⟨by rfl, ?_⟩) ?_ ?_
        rotate_left
        · intro w'
          go_simp
          with_reducible rfl
        rotate_left
        · simp only [Act.put, List.setIfInBounds_toArray, List.set_cons_zero, List.set_cons_succ, i64_w, i32_w]
          rfl
        refine take_ (i := 2) (N := some 78) (v := ?_) (a' := ?_) #[true, false, true, false, false, false, false, false, false, false, false, false, false, false, false, false, false, false, false, false, false, false] rfl rfl (by kernel_rfl) (fun _ _ _ h => h) (Or.inl ⟨by rfl, ?_⟩) hHeld ?_ ?_
        rotate_left
        · rintro w' ⟨s0, s1, s2, s3, s4⟩
          go_simp
          with_reducible rfl
        rotate_left
        · simp only [Act.put, List.setIfInBounds_toArray, List.set_cons_zero, List.set_cons_succ, i64_w, i32_w]
          rfl
        refine one_ (i := 1) (N := some 77) #[true, true, true, false, false, false, false, false, false, false, false, false, false, false, false, false, false, false, false, false, false, false] rfl rfl (by kernel_rfl) (by decide) (fun K hK => ?_)
        refine goes_ Tryd.func22 (by kernel_rfl) rfl #[.pointer none] (by rfl) rfl rfl (by simp only [List.map_toArray, List.map_cons, List.map_nil]; rfl) ?_
        with_reducible refine (held_nil).mono ?_
        rintro e wd ⟨rfl, rfl⟩
        refine ⟨_, rfl, ?_⟩
        refine hK.out _ _ (hHeld) (fun hHeld => ?_)
        clear hK K
        refine norm_ (a' := ?_) ?_ ?_
        rotate_left
        · show Act.put _ (some 77) _ = _
          simp only [Act.put, List.setIfInBounds_toArray, List.set_cons_zero, List.set_cons_succ, i64_w, i32_w]
          rfl
        refine one_ (i := 3) (N := some 79) #[true, true, true, true, false, false, false, false, false, false, false, false, false, false, false, false, false, false, false, false, false, false] rfl rfl (by kernel_rfl) (by decide) (fun K hK => ?_)
        refine goes_ Tryd.func35 (by kernel_rfl) rfl #[rnil] (by rfl) rfl rfl (by simp only [List.map_toArray, List.map_cons, List.map_nil]; rfl) ?_
        with_reducible refine (rheld_zero).mono ?_
        rintro e wd ⟨rfl, hbd⟩
        refine ⟨_, rfl, ?_⟩
        have HBD := Lib.hid hbd
        clear hbd
        refine hK.out _ _ (⟨keepA HBD.out hHeld.1, keepA HBD.out hHeld.2.1, keepA HBD.out hHeld.2.2.1, keepA HBD.out hHeld.2.2.2.1, Lib.hid (belowT hHeld.2.2.2.2.out HBD.out)⟩) (fun hHeld => ?_)
        clear hK K
        refine norm_ (a' := ?_) ?_ ?_
        rotate_left
        · show Act.put _ (some 79) _ = _
          simp only [Act.put, List.setIfInBounds_toArray, List.set_cons_zero, List.set_cons_succ, i64_w, i32_w]
          rfl
        refine pure_ (i := 4) (N := some 80) (v := ?_) (a' := ?_) #[true, true, true, true, true, false, false, false, false, false, false, false, false, false, false, false, false, false, false, false, false, false] rfl rfl (by kernel_rfl) (fun _ _ _ h => h) (Or.inl ⟨by rfl, ?_⟩) ?_ ?_
        rotate_left
        · intro w'
          go_simp
          with_reducible rfl
        rotate_left
        · simp only [Act.put, List.setIfInBounds_toArray, List.set_cons_zero, List.set_cons_succ, i64_w, i32_w]
          rfl
        refine pure_ (i := 5) (N := some 81) (v := ?_) (a' := ?_) #[true, true, true, true, true, true, false, false, false, false, false, false, false, false, false, false, false, false, false, false, false, false] rfl rfl (by kernel_rfl) (fun _ _ _ h => h) (Or.inl ⟨by rfl, ?_⟩) ?_ ?_
        rotate_left
        · intro w'
          go_simp
          with_reducible rfl
        rotate_left
        · simp only [Act.put, List.setIfInBounds_toArray, List.set_cons_zero, List.set_cons_succ, i64_w, i32_w]
          rfl
        refine pure_ (i := 6) (N := some 82) (v := ?_) (a' := ?_) #[true, true, true, true, true, true, true, false, false, false, false, false, false, false, false, false, false, false, false, false, false, false] rfl rfl (by kernel_rfl) (fun _ _ _ h => h) (Or.inl ⟨by rfl, ?_⟩) ?_ ?_
        rotate_left
        · intro w'
          go_simp
          with_reducible rfl
        rotate_left
        · simp only [Act.put, List.setIfInBounds_toArray, List.set_cons_zero, List.set_cons_succ, i64_w, i32_w]
          rfl
        refine take_ (i := 8) (N := some 84) (v := ?_) (a' := ?_) #[true, true, true, true, true, true, true, false, true, false, false, false, false, false, false, false, false, false, false, false, false, false] rfl rfl (by kernel_rfl) (fun _ _ _ h => h) (Or.inl ⟨by rfl, ?_⟩) hHeld ?_ ?_
        rotate_left
        · rintro w' ⟨s0, s1, s2, s3, s4⟩
          go_simp
          with_reducible rfl
        rotate_left
        · simp only [Act.put, List.setIfInBounds_toArray, List.set_cons_zero, List.set_cons_succ, i64_w, i32_w]
          rfl
        refine one_ (i := 7) (N := some 83) #[true, true, true, true, true, true, true, true, true, false, false, false, false, false, false, false, false, false, false, false, false, false] rfl rfl (by kernel_rfl) (by decide) (fun K hK => ?_)
        refine goes_ Tryd.func23 (by kernel_rfl) rfl #[.pointer none] (by rfl) rfl rfl (by simp only [List.map_toArray, List.map_cons, List.map_nil]; rfl) ?_
        with_reducible refine (wants_nil).mono ?_
        rintro e wd ⟨rfl, rfl⟩
        refine ⟨_, rfl, ?_⟩
        refine hK.out _ _ (hHeld) (fun hHeld => ?_)
        clear hK K
        refine norm_ (a' := ?_) ?_ ?_
        rotate_left
        · show Act.put _ (some 83) _ = _
          simp only [Act.put, List.setIfInBounds_toArray, List.set_cons_zero, List.set_cons_succ, i64_w, i32_w]
          rfl
        refine one_ (i := 9) (N := some 85) #[true, true, true, true, true, true, true, true, true, true, false, false, false, false, false, false, false, false, false, false, false, false] rfl rfl (by kernel_rfl) (by decide) (fun K hK => ?_)
        refine goes_ Tryd.func36 (by kernel_rfl) rfl #[rnil] (by rfl) rfl rfl (by simp only [List.map_toArray, List.map_cons, List.map_nil]; rfl) ?_
        with_reducible refine (rwants_zero).mono ?_
        rintro e wd ⟨rfl, hbd⟩
        refine ⟨_, rfl, ?_⟩
        have HBD := Lib.hid hbd
        clear hbd
        refine hK.out _ _ (⟨keepA HBD.out hHeld.1, keepA HBD.out hHeld.2.1, keepA HBD.out hHeld.2.2.1, keepA HBD.out hHeld.2.2.2.1, Lib.hid (belowT hHeld.2.2.2.2.out HBD.out)⟩) (fun hHeld => ?_)
        clear hK K
        refine norm_ (a' := ?_) ?_ ?_
        rotate_left
        · show Act.put _ (some 85) _ = _
          simp only [Act.put, List.setIfInBounds_toArray, List.set_cons_zero, List.set_cons_succ, i64_w, i32_w]
          rfl
        refine pure_ (i := 10) (N := some 86) (v := ?_) (a' := ?_) #[true, true, true, true, true, true, true, true, true, true, true, false, false, false, false, false, false, false, false, false, false, false] rfl rfl (by kernel_rfl) (fun _ _ _ h => h) (Or.inl ⟨by rfl, ?_⟩) ?_ ?_
        rotate_left
        · intro w'
          go_simp
          with_reducible rfl
        rotate_left
        · simp only [Act.put, List.setIfInBounds_toArray, List.set_cons_zero, List.set_cons_succ, i64_w, i32_w]
          rfl
        refine pure_ (i := 11) (N := some 87) (v := ?_) (a' := ?_) #[true, true, true, true, true, true, true, true, true, true, true, true, false, false, false, false, false, false, false, false, false, false] rfl rfl (by kernel_rfl) (fun _ _ _ h => h) (Or.inl ⟨by rfl, ?_⟩) ?_ ?_
        rotate_left
        · intro w'
          go_simp
          with_reducible rfl
        rotate_left
        · simp only [Act.put, List.setIfInBounds_toArray, List.set_cons_zero, List.set_cons_succ, i64_w, i32_w]
          rfl
        refine pure_ (i := 12) (N := some 88) (v := ?_) (a' := ?_) #[true, true, true, true, true, true, true, true, true, true, true, true, true, false, false, false, false, false, false, false, false, false] rfl rfl (by kernel_rfl) (fun _ _ _ h => h) (Or.inl ⟨by rfl, ?_⟩) ?_ ?_
        rotate_left
        · intro w'
          go_simp
          with_reducible rfl
        rotate_left
        · simp only [Act.put, List.setIfInBounds_toArray, List.set_cons_zero, List.set_cons_succ, i64_w, i32_w]
          rfl
        refine pure_ (i := 13) (N := some 89) (v := ?_) (a' := ?_) #[true, true, true, true, true, true, true, true, true, true, true, true, true, true, false, false, false, false, false, false, false, false] rfl rfl (by kernel_rfl) (fun _ _ _ h => h) (Or.inl ⟨by rfl, ?_⟩) ?_ ?_
        rotate_left
        · intro w'
          go_simp
          with_reducible rfl
        rotate_left
        · simp only [Act.put, List.setIfInBounds_toArray, List.set_cons_zero, List.set_cons_succ, i64_w, i32_w]
          rfl
        refine pure_ (i := 15) (N := some 91) (v := ?_) (a' := ?_) #[true, true, true, true, true, true, true, true, true, true, true, true, true, true, false, true, false, false, false, false, false, false] rfl rfl (by kernel_rfl) (fun _ _ _ h => h) (Or.inl ⟨by rfl, ?_⟩) ?_ ?_
        rotate_left
        · intro w'
          go_simp
          with_reducible rfl
        rotate_left
        · simp only [Act.put, List.setIfInBounds_toArray, List.set_cons_zero, List.set_cons_succ, i64_w, i32_w]
          rfl
        refine pure_ (i := 17) (N := some 93) (v := ?_) (a' := ?_) #[true, true, true, true, true, true, true, true, true, true, true, true, true, true, false, true, false, true, false, false, false, false] rfl rfl (by kernel_rfl) (fun _ _ _ h => h) (Or.inl ⟨by rfl, ?_⟩) ?_ ?_
        rotate_left
        · intro w'
          go_simp
          with_reducible rfl
        rotate_left
        · simp only [Act.put, List.setIfInBounds_toArray, List.set_cons_zero, List.set_cons_succ, i64_w, i32_w]
          rfl
        refine take_ (i := 16) (N := some 92) (v := ?_) (a' := ?_) #[true, true, true, true, true, true, true, true, true, true, true, true, true, true, false, true, true, true, false, false, false, false] rfl rfl (by kernel_rfl) (fun _ _ _ h => h) (Or.inl ⟨by rfl, ?_⟩) hHeld ?_ ?_
        rotate_left
        · rintro w' ⟨s0, s1, s2, s3, s4⟩
          go_simp
          with_reducible rfl
        rotate_left
        · simp only [Act.put, List.setIfInBounds_toArray, List.set_cons_zero, List.set_cons_succ, i64_w, i32_w]
          rfl
        refine take_ (i := 18) (N := some 94) (v := ?_) (a' := ?_) #[true, true, true, true, true, true, true, true, true, true, true, true, true, true, false, true, true, true, true, false, false, false] rfl rfl (by kernel_rfl) (fun _ _ _ h => h) (Or.inl ⟨by rfl, ?_⟩) hHeld ?_ ?_
        rotate_left
        · rintro w' ⟨s0, s1, s2, s3, s4⟩
          go_simp
          with_reducible rfl
        rotate_left
        · simp only [Act.put, List.setIfInBounds_toArray, List.set_cons_zero, List.set_cons_succ, i64_w, i32_w]
          rfl
        refine one_ (i := 14) (N := some 90) #[true, true, true, true, true, true, true, true, true, true, true, true, true, true, true, true, true, true, true, false, false, false] rfl rfl (by kernel_rfl) (by decide) (fun K hK => ?_)
        refine goes_ Tryd.func24 (by kernel_rfl) rfl #[.pointer none] (by rfl) rfl rfl (by simp only [List.map_toArray, List.map_cons, List.map_nil]; rfl) ?_
        with_reducible refine (err_nilp).mono ?_
        rintro e wd ⟨rfl, rfl⟩
        refine ⟨_, rfl, ?_⟩
        refine hK.out _ _ (hHeld) (fun hHeld => ?_)
        clear hK K
        refine norm_ (a' := ?_) ?_ ?_
        rotate_left
        · show Act.put _ (some 90) _ = _
          simp only [Act.put, List.setIfInBounds_toArray, List.set_cons_zero, List.set_cons_succ, i64_w, i32_w]
          rfl
        refine one_ (i := 19) (N := some 95) #[true, true, true, true, true, true, true, true, true, true, true, true, true, true, true, true, true, true, true, true, false, false] rfl rfl (by kernel_rfl) (by decide) (fun K hK => ?_)
        refine goes_ Tryd.func38 (by kernel_rfl) rfl #[.nilIface, .int .i64 0, .int .u32 0] (by rfl) rfl rfl (by simp only [List.map_toArray, List.map_cons, List.map_nil]; rfl) ?_
        with_reducible refine (fails_nil 0).mono ?_
        rintro e wd ⟨rfl, hbd⟩
        refine ⟨_, rfl, ?_⟩
        have HBD := Lib.hid hbd
        clear hbd
        refine hK.out _ _ (⟨keepA HBD.out hHeld.1, keepA HBD.out hHeld.2.1, keepA HBD.out hHeld.2.2.1, keepA HBD.out hHeld.2.2.2.1, Lib.hid (belowT hHeld.2.2.2.2.out HBD.out)⟩) (fun hHeld => ?_)
        clear hK K
        refine norm_ (a' := ?_) ?_ ?_
        rotate_left
        · show Act.put _ (some 95) _ = _
          simp only [Act.put, List.setIfInBounds_toArray, List.set_cons_zero, List.set_cons_succ, i64_w, i32_w]
          rfl
        refine pure_ (i := 20) (N := some 96) (v := ?_) (a' := ?_) #[true, true, true, true, true, true, true, true, true, true, true, true, true, true, true, true, true, true, true, true, true, false] rfl rfl (by kernel_rfl) (fun _ _ _ h => h) (Or.inl ⟨by rfl, ?_⟩) ?_ ?_
        rotate_left
        · intro w'
          go_simp
          with_reducible rfl
        rotate_left
        · simp only [Act.put, List.setIfInBounds_toArray, List.set_cons_zero, List.set_cons_succ, i64_w, i32_w]
          rfl
        refine pure_ (i := 21) (N := some 97) (v := ?_) (a' := ?_) #[true, true, true, true, true, true, true, true, true, true, true, true, true, true, true, true, true, true, true, true, true, true] rfl rfl (by kernel_rfl) (fun _ _ _ h => h) (Or.inl ⟨by rfl, ?_⟩) ?_ ?_
        rotate_left
        · intro w'
          go_simp
          with_reducible rfl
        rotate_left
        · simp only [Act.put, List.setIfInBounds_toArray, List.set_cons_zero, List.set_cons_succ, i64_w, i32_w]
          rfl
        refine done_ (by kernel_rfl) ?_
        have HBe := Lib.hid (belowT HSc.out hHeld.2.2.2.2.out)
        clear hHeld x0 x1 x2 x3
        go_wp2_with fail
        go_roundw
        case rel => exact ⟨j + 1, by go_num, by omega, Lib.hid (belowT HB7.out HBe.out), Lib.hid (keepB HBe.out HM7.out)⟩
        case measure => simp [intOf]; omega
      · have hd1 : decide ((j : Int) < ps.length) = false := by simp; omega
        go_wp2_with fail
        go_ret
        exact ⟨rfl, belowT HB1.out HB.out⟩
  · have m1 : 1 ≤ most := by omega
    have m2 : most ≤ 65536 := by omega
    go_wp2_with fail
    refine (new_dec sa (w0 := w1) most m1 m2).mono ?_
    rintro e w2 ⟨rfl, hd2, hb2⟩
    have HD2 := Lib.hid hd2
    have HB2 := Lib.hid hb2
    clear hd2 hb2
    have g0 : w1.heap.size < w2.heap.size := HD2.out.glt
    go_wp2_with fail
    refine (rnew_yes most _ m1 m2).mono ?_
    rintro e w3 ⟨rfl, hb3⟩
    have HB3 := Lib.hid (belowT HB2.out hb3)
    have HD3 := Lib.hid (HD2.out.below hb3)
    clear hb3 HD2
    go_wp2_with fail
    refine (code_nil _).mono ?_
    rintro e w4 ⟨rfl, rfl⟩
    have HS0 := Lib.hid (FStep.start (ps := ps) HB3.out HD3.out)
    have hz3 : w1.heap.size ≤ w3.heap.size := HB3.out.size
    have hgz : w1.heap.size < w3.heap.size := HD3.out.glt
    clear HB3 HD3 HB2
    go_wp2_with fail
    go_loopw [42] (fun jj wr => ∃ (j : Nat) (zs : List Int) (v : Value) (b : Nat) (M : Option Addr) (nm cm : Nat), jj = .int .i64 j ∧ j ≤ ps.length ∧ Hid (FStep sa w1 wr w1.heap.size w3.heap.size most ps j zs v b M nm cm)) (fun jj _ => ps.length - (intOf jj).toNat)
    case atStart => exact ⟨0, [], _, 0, none, 0, 0, rfl, by omega, HS0⟩
    case round =>
      obtain ⟨j, zs, v, b, M, nm, cm, rfl, hj, HS⟩ := hrel
      by_cases hlt : j < ps.length
      · have hd1 : decide ((j : Int) < ps.length) = true := by simp; omega
        have hk0 : (0 : Int) ≤ (j : Int) := by omega
        have hk1 : (j : Int) < (ps.length : Int) := by omega
        have HUr := Lib.hid (HU.out.next (belowT HB1.out HS.out.below))
        obtain ⟨bp, op, rfl, hrd⟩ := HUr.out.now.pcs.rd (by omega)
        obtain ⟨Ap, cp, hcell, hBp⟩ := hrd j hlt
        obtain ⟨ys, hys⟩ : ∃ ys, ys = ps.getD j [] := ⟨_, rfl⟩
        rw [← hys] at hcell hBp
        have HY := Lib.hid hys
        have HBP := Lib.hid hBp
        have hnm : zs.length = nm := HS.out.fed.now.len
        have hbd : nm + ys.length ≤ 100000000 := by
          have h1 := totj_succ hlt
          have h2 := totj_le ps (j + 1)
          have h3 := HS.out.len
          have h4 := HSZ.out
          rw [← hys] at h1
          omega
        have HNM := Lib.hid hnm
        have m0 : wr.cell? ⟨w3.heap.size, 0, none⟩ = some (.int .i64 most) := cell_blk HS.out.box rfl
        have m1' : wr.cell? ⟨w3.heap.size, 1, none⟩ = some (.slice M nm cm) := cell_blk HS.out.box rfl
        clear hrd hys hBp hnm
        go_wp2_with fail
        refine (rfeed_any most M nm cm zs HS.out.fed Ap ys.length cp ys HBP.out m1 m2 (by omega)).mono ?_
        rintro e w4 ⟨M', n', c', zs', F, f, rfl, hn', hcut, hzx, hfed, hF, hb4⟩
        obtain ⟨ng, nv⟩ := HS.out.gm_ne
        have hlen' : zs'.length = n' := hfed.now.len
        have hvl : ∀ k, v.ownBlock = some k → k < wr.heap.size := HS.out.dec.vlt
        have hgl : w1.heap.size < wr.heap.size := HS.out.dec.glt
        have hml : w3.heap.size < wr.heap.size := (Array.getElem?_eq_some_iff.1 HS.out.box).1
        have hz4 : wr.heap.size ≤ w4.heap.size := hb4.size
        have HD4 := Lib.hid (HS.out.dec.below hb4)
        have HB4 := Lib.hid (belowT HS.out.below hb4)
        have HM4 := Lib.hid (keepB hb4 HS.out.box)
        have HF4 := Lib.hid hF
        have HFD4 := Lib.hid (hfed.mono (ok' := fun k => k ≠ w1.heap.size ∧ some k ≠ v.ownBlock ∧ k ≠ w3.heap.size) (by
          rintro k (hk | hk)
          · exact hk
          · exact ⟨by omega, fun e => by have := hvl k e.symm; omega, by omega⟩))
        have HVL := Lib.hid hvl
        have HCUT := Lib.hid hcut
        have HZX := Lib.hid hzx
        have HLEN := Lib.hid hlen'
        have HNV := Lib.hid nv
        have HNG := Lib.hid ng
        have hbr := HBP.out.next hb4
        have HBP4 := Lib.hid hbr
        have HXZ := Lib.hid HS.out.fed.now.byt
        clear hfed hF hb4 hcut hzx hlen' hvl m0 m1' nv ng hbr
        go_upto_region 11 with fail
        obtain ⟨w5, hw5⟩ : ∃ w5, w5 = w4.alloc (.cells #[.int .i64 most, .slice M' n' c'] 53) := ⟨_, rfl⟩
        have hb45 : Below w4.heap.size w4 w5 := by rw [hw5]; exact (Below.refl _ _).alloc (Nat.le_refl _) _
        have hn5 : w5.heap[w4.heap.size]? = some (rdec most M' n' c') := by rw [hw5]; exact alloc_at _ _
        rw [← hw5]
        have HB5 := Lib.hid (belowT HB4.out hb45)
        have HB45 := Lib.hid hb45
        have HN5 := Lib.hid hn5
        clear hw5 hb45 hn5
        have hxb := HBP4.out.byt
        have HYX := Lib.hid hxb
        clear hxb
        go_wp2_with (at_builtin; go_loud (refine append_at (w0 := w1) rfl _ _ rfl (.slice (some ⟨w5.heap.size, 0, none⟩) 0 0) [] rfl (own_new w5 w1.heap.size [] HB5.out.size (by simp)) Ap ys.length cp ys rfl ((HBP4.out.next HB45.out).next ((Below.refl _ _).alloc (Nat.le_refl _) _)) (by simp <;> omega) (HB5.out.alloc HB5.out.size _) ?_; intro va wa hoa hba2 hga _; rw [List.nil_append] at hoa; obtain ⟨Aa, ca, rfl, hqa⟩ := Own.bs hoa HYX.out; have hbW : Below w5.heap.size w5 wa := ((Below.refl _ _).alloc (Nat.le_refl _) _).grown hga (by simp) (fun k hk => by simp [Value.ownBlock] at hk; omega); have HB4a := Lib.hid (belowT HB45.out hbW); have HNa := Lib.hid (keepB hbW HN5.out); have HBa := Lib.hid hba2; have HQa := Lib.hid hqa; clear hoa hba2 hga hqa hbW))
        refine (feed_dec' (HU.out.at_ HB1.out).good (HU.out.at_ HB1.out).law w1.heap.size most zs v b HBa.out (HD4.out.below HB4a.out) (Nat.le_refl _) HXZ.out Aa ys.length ca ys HQa.out m1 m2 (by have := restX_len most zs; have := HNM.out; omega)).mono ?_
        rintro e w6 ⟨f6, v6, b6, rfl, hF6⟩
        obtain ⟨A6, c6, rfl, _⟩ := Kd.N_reads hF6.frames
        have hk4 := HB4a.out.size
        have hkk : ∀ k, k < wa.heap.size → k ≠ w1.heap.size → some k ≠ v.ownBlock → w6.heap[k]? = wa.heap[k]? := fun k h1 h2 h3 => hF6.kept.2 k h1 (fun h => h.elim h2 h3)
        have hm6 : w6.heap[w3.heap.size]? = some (rdec most M nm cm) := (hkk _ (by omega) HNG.out HNV.out).trans (keepB HB4a.out HM4.out)
        have hn6 : w6.heap[w4.heap.size]? = some (rdec most M' n' c') := (hkk _ (Array.getElem?_eq_some_iff.1 HNa.out).1 (by omega) (fun e => by have := HVL.out _ e.symm; omega)).trans HNa.out
        have hv6 : ∀ k, k < wa.heap.size → some k ≠ v.ownBlock → some k ≠ v6.ownBlock := fun k h1 h2 => by
          rcases hF6.row with h | h | ⟨i, h, hi⟩
          · rw [h]; exact h2
          · rw [h]; simp
          · rw [h]; intro e; injection e with e; omega
        have hfd6 : FBs w6 (fun k => k ≠ w1.heap.size ∧ some k ≠ v6.ownBlock ∧ k ≠ w3.heap.size) M' n' c' zs' := by
          have h1 := (HFD4.out.below HB4a.out)
          have h2 : FBs wa (fun k => (k ≠ w1.heap.size ∧ some k ≠ v.ownBlock ∧ k ≠ w3.heap.size) ∧ k < wa.heap.size) M' n' c' zs' := Foot.bound h1
          exact (h2.step (w1 := w6) fun k hk hlt => hkk k hlt hk.1.1 hk.1.2.1).mono fun k hk => ⟨hk.1.1, hv6 k hk.2 hk.1.2.1, hk.1.2.2⟩
        have hFw6 : Kd.F kFr w6 (fun k => wr.heap.size ≤ k) F (newX most zs ys).length (newX most zs ys) := Kd.F_step (Kd.F_below HF4.out HB4a.out) fun k hk hlt => hkk k hlt (by omega) (fun e => by have := HVL.out k e.symm; omega)
        have hdec6 := (hF6.dec.cut_eq HCUT.out)
        have hN6 := Kd.N_F hF6.frames
        have he6 : errX most (zs ++ ys) b6 = errX most zs' b6 := by unfold errX codeX; rw [HCUT.out]
        have hy6 : whyX most (zs ++ ys) = whyX most zs' := by unfold whyX codeX; rw [HCUT.out]
        rw [he6, hy6]
        have HB6 := Lib.hid hF6.below
        have HM6 := Lib.hid hm6
        have HFD6 := Lib.hid hfd6
        have HFW6 := Lib.hid hFw6
        have HDC6 := Lib.hid hdec6
        have HFG6 := Lib.hid hN6
        have hwa6 : wa.heap.size ≤ w6.heap.size := hF6.kept.1
        have c0 : w6.cell? ⟨w4.heap.size, 0, none⟩ = some (.int .i64 most) := cell_blk hn6 rfl
        have c1 : w6.cell? ⟨w4.heap.size, 1, none⟩ = some (.slice M' n' c') := cell_blk hn6 rfl
        have k0 : w6.cell? ⟨w3.heap.size, 0, none⟩ = some (.int .i64 most) := cell_blk hm6 rfl
        have k1 : w6.cell? ⟨w3.heap.size, 1, none⟩ = some (.slice M nm cm) := cell_blk hm6 rfl
        have k2 : ∀ i, w6.frozen? ⟨w3.heap.size, i, none⟩ = false := fun i => free_blk hm6
        clear hF6 hkk hm6 hn6 hv6 hfd6 hFw6 hdec6 hN6 he6 hy6
        go_upto_region 13 with fail
        obtain ⟨w7, hw7⟩ : ∃ w7, w7 = (w6.setCell ⟨w3.heap.size, 0, none⟩ (.int .i64 most)).setCell ⟨w3.heap.size, 1, none⟩ (.slice M' n' c') := ⟨_, rfl⟩
        have hst : ∀ k, k ≠ w3.heap.size → w7.heap[k]? = w6.heap[k]? := fun k hk => by rw [hw7, set_other _ hk, set_other _ hk]
        have hm7 : w7.heap[w3.heap.size]? = some (rdec most M' n' c') := by rw [hw7]; exact set_blk _ (set_blk _ HM6.out)
        have hb7 : Below w1.heap.size w1 w7 := by rw [hw7]; exact (HB6.out.setCell hz3 _).setCell hz3 _
        have ng7 : w1.heap.size ≠ w3.heap.size := by omega
        have hv67 : ∀ k, v6.ownBlock = some k → k ≠ w3.heap.size := fun k hk e => by
          subst e
          by_cases hc : codeX most zs' = 0
          · obtain ⟨cs, h1⟩ := own_typed (HDC6.out.live hc).2 _ hk
            rw [HM6.out] at h1; simp at h1
          · rw [(HDC6.out.dead hc).2.2] at hk; simp [Value.ownBlock] at hk
        have hd7 : DecV sa w1 w7 w1.heap.size most zs' v6 b6 := HDC6.out.step (hst _ ng7) (fun k hk => hst k (hv67 k hk)) (fun hc => hst b6 (fun e => by
          have h1 := (HDC6.out.dead hc).2.1
          rw [e, HM6.out] at h1; simp at h1))
        have hfd7 := HFD6.out.step (w1 := w7) (fun k hk _ => hst k hk.2.2)
        have hfw7 := Kd.F_step HFW6.out (W1 := w7) (fun k hk _ => hst k (by omega))
        have hfg7 := Kd.F_step HFG6.out (W1 := w7) (fun k hk _ => hst k (by omega))
        rw [← hw7]
        have HS7 := Lib.hid (show FStep sa w1 w7 w1.heap.size w3.heap.size most ps (j + 1) zs' v6 b6 M' n' c' from ⟨hb7, hd7, hm7, hfd7, by
          have h1 := totj_succ hlt
          have h2 := HS.out.len
          have h3 := HNM.out
          rw [← HY.out] at h1
          rw [HLEN.out]
          omega, hz3⟩)
        have HFW7 := Lib.hid hfw7
        have HFG7 := Lib.hid hfg7
        have k0' : w7.cell? ⟨w3.heap.size, 0, none⟩ = some (.int .i64 most) := cell_blk hm7 rfl
        have k1' : w7.cell? ⟨w3.heap.size, 1, none⟩ = some (.slice M' n' c') := cell_blk hm7 rfl
        have HU7 := Lib.hid (HU.out.next (belowT HB1.out hb7))
        have ht := told_F most M' n' c' zs' hfd7.now m1 m2 (by omega)
        have HNL := Lib.hid (show (newX most zs ys).length ≤ 9223372036854775807 by
          have h1 := framesX_le most (zs ++ ys)
          rw [framesX_app, List.length_append, List.length_append] at h1
          have := HNM.out
          omega)
        clear hst hm7 hb7 hv67 hd7 hfd7 hfw7 hfg7 hw7 c0 c1 k0 k1 k2
        go_wp2_with fail
        refine ht.mono ?_
        rintro e w8 ⟨A9, c9, rfl, _, _, hb8⟩
        obtain ⟨w9, hw9⟩ : ∃ w9, w9 = w8.alloc (.cells #[.slice A9 (framesX most zs').length c9, .int .i64 (restX most zs').length, .int .i64 (whyX most zs'), .int .u32 (stX most zs')] 66) := ⟨_, rfl⟩
        have hb79 : Below w7.heap.size w7 w9 := by rw [hw9]; exact hb8.alloc hb8.size _
        have ht9 : w9.heap[w8.heap.size]? = some (rtold (.slice A9 (framesX most zs').length c9) (restX most zs').length (whyX most zs') (stX most zs')) := by rw [hw9]; exact alloc_at _ _
        have HB79 := Lib.hid hb79
        have HT9 := Lib.hid ht9
        have hF1 := Kd.F_mono (Kd.F_bound (Kd.F_below HFG7.out hb79)) (ok' := fun k => k < w9.heap.size) fun k hk => hk.2
        have hF2 := Kd.F_mono (Kd.F_bound (Kd.F_below HFW7.out hb79)) (ok' := fun k => k < w9.heap.size) fun k hk => hk.2
        have hsf := fun (d1 d2 : Nat) => sameFrames_any (w := w9) (c := d1) (d := d2) rfl hF1 hF2 HNL.out
        have HSF := Lib.hid hsf
        have HW9 := Lib.hid hw9
        clear hb8 hb79 ht9 hF1 hF2 hsf hw9 ht k0' k1'
        go_wp2_with fail
        rw [← HW9.out]
        refine (HSF.out c6 f).mono ?_
        rintro e wb ⟨rfl, hbb⟩
        have hb7b := belowT HB79.out hbb
        have HSb := Lib.hid hb7b
        have htb := keepB hbb HT9.out
        have hmb := keepB hb7b HS7.out.box
        have HTB := Lib.hid htb
        have HMB := Lib.hid hmb
        have y3 : wb.cell? ⟨w8.heap.size, 3, none⟩ = some (.int .u32 (stX most zs')) := cell_blk htb rfl
        have HDb := Lib.hid (HS7.out.dec.below hb7b)
        clear hbb hb7b htb hmb
        go_wp2_with fail
        refine (fails_dec (HU7.out.at_ HSb.out).good (HU7.out.at_ HSb.out).ert HDb.out).mono ?_
        rintro e wc ⟨rfl, hbc⟩
        have HSc := Lib.hid (belowT HSb.out hbc)
        have htc := keepB hbc HTB.out
        have hmc := keepB hbc HMB.out
        have HDc := Lib.hid (HDb.out.below hbc)
        have HFc := Lib.hid (HS7.out.fed.below HSc.out)
        have HUc := Lib.hid (HU7.out.next HSc.out)
        have x0 : wc.cell? ⟨w3.heap.size, 0, none⟩ = some (.int .i64 most) := cell_blk hmc rfl
        have x1 : wc.cell? ⟨w3.heap.size, 1, none⟩ = some (.slice M' n' c') := cell_blk hmc rfl
        have x2 : wc.cell? ⟨w8.heap.size, 2, none⟩ = some (.int .i64 (whyX most zs')) := cell_blk htc rfl
        have x3 : wc.cell? ⟨w8.heap.size, 3, none⟩ = some (.int .u32 (stX most zs')) := cell_blk htc rfl
        have hn9 : n' ≤ 1000000000 := by omega
        have hz9 : zs'.length ≤ 1000000000 := by rw [HLEN.out]; exact hn9
        have hz10 : zs'.length ≤ 1099511627776 := by omega
        clear hbc htc hmc y3
        go_wp2_with fail
        refine start_ (n := 22) (S := fun w' => w'.cell? ⟨w3.heap.size, 0, none⟩ = some (.int .i64 most) ∧ w'.cell? ⟨w3.heap.size, 1, none⟩ = some (.slice M' n' c') ∧ w'.cell? ⟨w8.heap.size, 2, none⟩ = some (.int .i64 (whyX most zs')) ∧ w'.cell? ⟨w8.heap.size, 3, none⟩ = some (.int .u32 (stX most zs')) ∧ Hid (Below wc.heap.size wc w')) (ds := []) #[false, false, false, false, false, false, false, false, false, false, false, false, false, false, false, false, false, false, false, false, false, false] (by kernel_rfl) rfl rfl (⟨x0, x1, x2, x3, Lib.hid (Below.refl _ _).drew⟩) (fun hHeld => ?_)
        refine pure_ (i := 0) (N := some 76) (v := ?_) (a' := ?_) #[true, false, false, false, false, false, false, false, false, false, false, false, false, false, false, false, false, false, false, false, false, false] rfl rfl (by kernel_rfl) (fun _ _ _ h => h) (Or.inl ⟨by rfl, ?_⟩) ?_ ?_
        rotate_left
        · intro w'
          go_simp
          with_reducible rfl
        rotate_left
        · simp only [Act.put, List.setIfInBounds_toArray, List.set_cons_zero, List.set_cons_succ, i64_w, i32_w]
          rfl
        refine take_ (i := 2) (N := some 78) (v := ?_) (a' := ?_) #[true, false, true, false, false, false, false, false, false, false, false, false, false, false, false, false, false, false, false, false, false, false] rfl rfl (by kernel_rfl) (fun _ _ _ h => h) (Or.inl ⟨by rfl, ?_⟩) hHeld ?_ ?_
        rotate_left
        · rintro w' ⟨s0, s1, s2, s3, s4⟩
          go_simp
          with_reducible rfl
        rotate_left
        · simp only [Act.put, List.setIfInBounds_toArray, List.set_cons_zero, List.set_cons_succ, i64_w, i32_w]
          rfl
        refine one_ (i := 1) (N := some 77) #[true, true, true, false, false, false, false, false, false, false, false, false, false, false, false, false, false, false, false, false, false, false] rfl rfl (by kernel_rfl) (by decide) (fun K hK => ?_)
        refine goes_ Tryd.func22 (by kernel_rfl) rfl #[.pointer (some ⟨w1.heap.size, 0, none⟩)] (by rfl) rfl rfl (by simp only [List.map_toArray, List.map_cons, List.map_nil]; rfl) ?_
        with_reducible refine (held_dec (HDc.out.below hHeld.2.2.2.2.out) HZX.out).mono ?_
        rintro e wd ⟨rfl, rfl⟩
        refine ⟨_, rfl, ?_⟩
        refine hK.out _ _ (hHeld) (fun hHeld => ?_)
        clear hK K
        refine norm_ (a' := ?_) ?_ ?_
        rotate_left
        · show Act.put _ (some 77) _ = _
          simp only [Act.put, List.setIfInBounds_toArray, List.set_cons_zero, List.set_cons_succ, i64_w, i32_w]
          rfl
        refine one_ (i := 3) (N := some 79) #[true, true, true, true, false, false, false, false, false, false, false, false, false, false, false, false, false, false, false, false, false, false] rfl rfl (by kernel_rfl) (by decide) (fun K hK => ?_)
        refine goes_ Tryd.func35 (by kernel_rfl) rfl #[.agg #[.int .i64 most, .slice M' n' c']] (by rfl) rfl rfl (by simp only [List.map_toArray, List.map_cons, List.map_nil]; rfl) ?_
        with_reducible refine (rheld_any most M' n' c' zs' (HFc.out.below hHeld.2.2.2.2.out).now m1 m2 hn9).mono ?_
        rintro e wd ⟨rfl, hbd⟩
        refine ⟨_, rfl, ?_⟩
        have HBD := Lib.hid hbd
        clear hbd
        refine hK.out _ _ (⟨keepA HBD.out hHeld.1, keepA HBD.out hHeld.2.1, keepA HBD.out hHeld.2.2.1, keepA HBD.out hHeld.2.2.2.1, Lib.hid (belowT hHeld.2.2.2.2.out HBD.out)⟩) (fun hHeld => ?_)
        clear hK K
        refine norm_ (a' := ?_) ?_ ?_
        rotate_left
        · show Act.put _ (some 79) _ = _
          simp only [Act.put, List.setIfInBounds_toArray, List.set_cons_zero, List.set_cons_succ, i64_w, i32_w]
          rfl
        refine pure_ (i := 4) (N := some 80) (v := ?_) (a' := ?_) #[true, true, true, true, true, false, false, false, false, false, false, false, false, false, false, false, false, false, false, false, false, false] rfl rfl (by kernel_rfl) (fun _ _ _ h => h) (Or.inl ⟨by rfl, ?_⟩) ?_ ?_
        rotate_left
        · intro w'
          go_simp
          with_reducible rfl
        rotate_left
        · simp only [Act.put, List.setIfInBounds_toArray, List.set_cons_zero, List.set_cons_succ, i64_w, i32_w]
          rfl
        refine pure_ (i := 5) (N := some 81) (v := ?_) (a' := ?_) #[true, true, true, true, true, true, false, false, false, false, false, false, false, false, false, false, false, false, false, false, false, false] rfl rfl (by kernel_rfl) (fun _ _ _ h => h) (Or.inl ⟨by rfl, ?_⟩) ?_ ?_
        rotate_left
        · intro w'
          go_simp
          with_reducible rfl
        rotate_left
        · simp only [Act.put, List.setIfInBounds_toArray, List.set_cons_zero, List.set_cons_succ, i64_w, i32_w]
          rfl
        refine pure_ (i := 6) (N := some 82) (v := ?_) (a' := ?_) #[true, true, true, true, true, true, true, false, false, false, false, false, false, false, false, false, false, false, false, false, false, false] rfl rfl (by kernel_rfl) (fun _ _ _ h => h) (Or.inl ⟨by rfl, ?_⟩) ?_ ?_
        rotate_left
        · intro w'
          go_simp
          with_reducible rfl
        rotate_left
        · simp only [Act.put, List.setIfInBounds_toArray, List.set_cons_zero, List.set_cons_succ, i64_w, i32_w]
          rfl
        refine take_ (i := 8) (N := some 84) (v := ?_) (a' := ?_) #[true, true, true, true, true, true, true, false, true, false, false, false, false, false, false, false, false, false, false, false, false, false] rfl rfl (by kernel_rfl) (fun _ _ _ h => h) (Or.inl ⟨by rfl, ?_⟩) hHeld ?_ ?_
        rotate_left
        · rintro w' ⟨s0, s1, s2, s3, s4⟩
          go_simp
          with_reducible rfl
        rotate_left
        · simp only [Act.put, List.setIfInBounds_toArray, List.set_cons_zero, List.set_cons_succ, i64_w, i32_w]
          rfl
        refine one_ (i := 7) (N := some 83) #[true, true, true, true, true, true, true, true, true, false, false, false, false, false, false, false, false, false, false, false, false, false] rfl rfl (by kernel_rfl) (by decide) (fun K hK => ?_)
        refine goes_ Tryd.func23 (by kernel_rfl) rfl #[.pointer (some ⟨w1.heap.size, 0, none⟩)] (by rfl) rfl rfl (by simp only [List.map_toArray, List.map_cons, List.map_nil]; rfl) ?_
        with_reducible refine (wants_dec (HUc.out.at_ hHeld.2.2.2.2.out).good (HDc.out.below hHeld.2.2.2.2.out) HZX.out hz10).mono ?_
        rintro e wd ⟨rfl, hbd⟩
        refine ⟨_, rfl, ?_⟩
        have HBD := Lib.hid hbd
        clear hbd
        refine hK.out _ _ (⟨keepA HBD.out hHeld.1, keepA HBD.out hHeld.2.1, keepA HBD.out hHeld.2.2.1, keepA HBD.out hHeld.2.2.2.1, Lib.hid (belowT hHeld.2.2.2.2.out HBD.out)⟩) (fun hHeld => ?_)
        clear hK K
        refine norm_ (a' := ?_) ?_ ?_
        rotate_left
        · show Act.put _ (some 83) _ = _
          simp only [Act.put, List.setIfInBounds_toArray, List.set_cons_zero, List.set_cons_succ, i64_w, i32_w]
          rfl
        refine one_ (i := 9) (N := some 85) #[true, true, true, true, true, true, true, true, true, true, false, false, false, false, false, false, false, false, false, false, false, false] rfl rfl (by kernel_rfl) (by decide) (fun K hK => ?_)
        refine goes_ Tryd.func36 (by kernel_rfl) rfl #[.agg #[.int .i64 most, .slice M' n' c']] (by rfl) rfl rfl (by simp only [List.map_toArray, List.map_cons, List.map_nil]; rfl) ?_
        with_reducible refine (rwants_any most M' n' c' zs' (HFc.out.below hHeld.2.2.2.2.out).now m1 m2 hn9).mono ?_
        rintro e wd ⟨rfl, hbd⟩
        refine ⟨_, rfl, ?_⟩
        have HBD := Lib.hid hbd
        clear hbd
        refine hK.out _ _ (⟨keepA HBD.out hHeld.1, keepA HBD.out hHeld.2.1, keepA HBD.out hHeld.2.2.1, keepA HBD.out hHeld.2.2.2.1, Lib.hid (belowT hHeld.2.2.2.2.out HBD.out)⟩) (fun hHeld => ?_)
        clear hK K
        refine norm_ (a' := ?_) ?_ ?_
        rotate_left
        · show Act.put _ (some 85) _ = _
          simp only [Act.put, List.setIfInBounds_toArray, List.set_cons_zero, List.set_cons_succ, i64_w, i32_w]
          rfl
        refine pure_ (i := 10) (N := some 86) (v := ?_) (a' := ?_) #[true, true, true, true, true, true, true, true, true, true, true, false, false, false, false, false, false, false, false, false, false, false] rfl rfl (by kernel_rfl) (fun _ _ _ h => h) (Or.inl ⟨by rfl, ?_⟩) ?_ ?_
        rotate_left
        · intro w'
          go_simp
          with_reducible rfl
        rotate_left
        · simp only [Act.put, List.setIfInBounds_toArray, List.set_cons_zero, List.set_cons_succ, i64_w, i32_w]
          rfl
        refine pure_ (i := 11) (N := some 87) (v := ?_) (a' := ?_) #[true, true, true, true, true, true, true, true, true, true, true, true, false, false, false, false, false, false, false, false, false, false] rfl rfl (by kernel_rfl) (fun _ _ _ h => h) (Or.inl ⟨by rfl, ?_⟩) ?_ ?_
        rotate_left
        · intro w'
          go_simp
          with_reducible rfl
        rotate_left
        · simp only [Act.put, List.setIfInBounds_toArray, List.set_cons_zero, List.set_cons_succ, i64_w, i32_w]
          rfl
        refine pure_ (i := 12) (N := some 88) (v := ?_) (a' := ?_) #[true, true, true, true, true, true, true, true, true, true, true, true, true, false, false, false, false, false, false, false, false, false] rfl rfl (by kernel_rfl) (fun _ _ _ h => h) (Or.inl ⟨by rfl, ?_⟩) ?_ ?_
        rotate_left
        · intro w'
          go_simp
          with_reducible rfl
        rotate_left
        · simp only [Act.put, List.setIfInBounds_toArray, List.set_cons_zero, List.set_cons_succ, i64_w, i32_w]
          rfl
        refine pure_ (i := 13) (N := some 89) (v := ?_) (a' := ?_) #[true, true, true, true, true, true, true, true, true, true, true, true, true, true, false, false, false, false, false, false, false, false] rfl rfl (by kernel_rfl) (fun _ _ _ h => h) (Or.inl ⟨by rfl, ?_⟩) ?_ ?_
        rotate_left
        · intro w'
          go_simp
          with_reducible rfl
        rotate_left
        · simp only [Act.put, List.setIfInBounds_toArray, List.set_cons_zero, List.set_cons_succ, i64_w, i32_w]
          rfl
        refine pure_ (i := 15) (N := some 91) (v := ?_) (a' := ?_) #[true, true, true, true, true, true, true, true, true, true, true, true, true, true, false, true, false, false, false, false, false, false] rfl rfl (by kernel_rfl) (fun _ _ _ h => h) (Or.inl ⟨by rfl, ?_⟩) ?_ ?_
        rotate_left
        · intro w'
          go_simp
          with_reducible rfl
        rotate_left
        · simp only [Act.put, List.setIfInBounds_toArray, List.set_cons_zero, List.set_cons_succ, i64_w, i32_w]
          rfl
        refine pure_ (i := 17) (N := some 93) (v := ?_) (a' := ?_) #[true, true, true, true, true, true, true, true, true, true, true, true, true, true, false, true, false, true, false, false, false, false] rfl rfl (by kernel_rfl) (fun _ _ _ h => h) (Or.inl ⟨by rfl, ?_⟩) ?_ ?_
        rotate_left
        · intro w'
          go_simp
          with_reducible rfl
        rotate_left
        · simp only [Act.put, List.setIfInBounds_toArray, List.set_cons_zero, List.set_cons_succ, i64_w, i32_w]
          rfl
        refine take_ (i := 16) (N := some 92) (v := ?_) (a' := ?_) #[true, true, true, true, true, true, true, true, true, true, true, true, true, true, false, true, true, true, false, false, false, false] rfl rfl (by kernel_rfl) (fun _ _ _ h => h) (Or.inl ⟨by rfl, ?_⟩) hHeld ?_ ?_
        rotate_left
        · rintro w' ⟨s0, s1, s2, s3, s4⟩
          go_simp
          with_reducible rfl
        rotate_left
        · simp only [Act.put, List.setIfInBounds_toArray, List.set_cons_zero, List.set_cons_succ, i64_w, i32_w]
          rfl
        refine take_ (i := 18) (N := some 94) (v := ?_) (a' := ?_) #[true, true, true, true, true, true, true, true, true, true, true, true, true, true, false, true, true, true, true, false, false, false] rfl rfl (by kernel_rfl) (fun _ _ _ h => h) (Or.inl ⟨by rfl, ?_⟩) hHeld ?_ ?_
        rotate_left
        · rintro w' ⟨s0, s1, s2, s3, s4⟩
          go_simp
          with_reducible rfl
        rotate_left
        · simp only [Act.put, List.setIfInBounds_toArray, List.set_cons_zero, List.set_cons_succ, i64_w, i32_w]
          rfl
        refine one_ (i := 14) (N := some 90) #[true, true, true, true, true, true, true, true, true, true, true, true, true, true, true, true, true, true, true, false, false, false] rfl rfl (by kernel_rfl) (by decide) (fun K hK => ?_)
        refine goes_ Tryd.func24 (by kernel_rfl) rfl #[.pointer (some ⟨w1.heap.size, 0, none⟩)] (by rfl) rfl rfl (by simp only [List.map_toArray, List.map_cons, List.map_nil]; rfl) ?_
        with_reducible refine (err_dec (HDc.out.below hHeld.2.2.2.2.out)).mono ?_
        rintro e wd ⟨rfl, rfl⟩
        refine ⟨_, rfl, ?_⟩
        refine hK.out _ _ (hHeld) (fun hHeld => ?_)
        clear hK K
        refine norm_ (a' := ?_) ?_ ?_
        rotate_left
        · show Act.put _ (some 90) _ = _
          simp only [Act.put, List.setIfInBounds_toArray, List.set_cons_zero, List.set_cons_succ, i64_w, i32_w]
          rfl
        refine one_ (i := 19) (N := some 95) #[true, true, true, true, true, true, true, true, true, true, true, true, true, true, true, true, true, true, true, true, false, false] rfl rfl (by kernel_rfl) (by decide) (fun K hK => ?_)
        refine goes_ Tryd.func38 (by kernel_rfl) rfl #[errX most zs' b6, .int .i64 (whyX most zs'), .int .u32 (stX most zs')] (by rfl) rfl rfl (by simp only [List.map_toArray, List.map_cons, List.map_nil]; rfl) ?_
        with_reducible refine (fails_dec (HUc.out.at_ hHeld.2.2.2.2.out).good (HUc.out.at_ hHeld.2.2.2.2.out).ert (HDc.out.below hHeld.2.2.2.2.out)).mono ?_
        rintro e wd ⟨rfl, hbd⟩
        refine ⟨_, rfl, ?_⟩
        have HBD := Lib.hid hbd
        clear hbd
        refine hK.out _ _ (⟨keepA HBD.out hHeld.1, keepA HBD.out hHeld.2.1, keepA HBD.out hHeld.2.2.1, keepA HBD.out hHeld.2.2.2.1, Lib.hid (belowT hHeld.2.2.2.2.out HBD.out)⟩) (fun hHeld => ?_)
        clear hK K
        refine norm_ (a' := ?_) ?_ ?_
        rotate_left
        · show Act.put _ (some 95) _ = _
          simp only [Act.put, List.setIfInBounds_toArray, List.set_cons_zero, List.set_cons_succ, i64_w, i32_w]
          rfl
        refine pure_ (i := 20) (N := some 96) (v := ?_) (a' := ?_) #[true, true, true, true, true, true, true, true, true, true, true, true, true, true, true, true, true, true, true, true, true, false] rfl rfl (by kernel_rfl) (fun _ _ _ h => h) (Or.inl ⟨by rfl, ?_⟩) ?_ ?_
        rotate_left
        · intro w'
          go_simp
          with_reducible rfl
        rotate_left
        · simp only [Act.put, List.setIfInBounds_toArray, List.set_cons_zero, List.set_cons_succ, i64_w, i32_w]
          rfl
        refine pure_ (i := 21) (N := some 97) (v := ?_) (a' := ?_) #[true, true, true, true, true, true, true, true, true, true, true, true, true, true, true, true, true, true, true, true, true, true] rfl rfl (by kernel_rfl) (fun _ _ _ h => h) (Or.inl ⟨by rfl, ?_⟩) ?_ ?_
        rotate_left
        · intro w'
          go_simp
          with_reducible rfl
        rotate_left
        · simp only [Act.put, List.setIfInBounds_toArray, List.set_cons_zero, List.set_cons_succ, i64_w, i32_w]
          rfl
        refine done_ (by kernel_rfl) ?_
        have HBe := Lib.hid (belowT HSc.out hHeld.2.2.2.2.out)
        clear hHeld x0 x1 x2 x3
        go_wp2_with fail
        go_roundw
        case rel => exact ⟨j + 1, zs', v6, b6, M', n', c', by go_num, by omega, Lib.hid ⟨belowT HS7.out.below HBe.out, HS7.out.dec.below HBe.out, keepB HBe.out HS7.out.box, HS7.out.fed.below HBe.out, HS7.out.len, HS7.out.gm0⟩⟩
        case measure => simp [intOf]; omega
      · have hd1 : decide ((j : Int) < ps.length) = false := by simp; omega
        go_wp2_with fail
        go_ret
        exact ⟨rfl, belowT HB1.out HS.out.below⟩
end Go.Proofs.YtfddhipdedcacaaDoor
/-
  FeedMemory's decoders, while the lists grow.
-/
namespace Go.Proofs.YtfddhipdedcacaaDoor
open Go.RowKit Go.Proofs.YtfddhipdedcacaaDoorW.PrintWords Go.Proofs.YtfddhipdedcacaaDoor.PFeedPieces
set_option linter.unusedVariables false
set_option linter.unusedSimpArgs false
theorem FBs_grow {W w1 : World} {ok ok' : Nat → Prop} {A : Option Addr} {n c : Nat} {xs : List Int} {u u1 : Value} (h : FBs W ok A n c xs) (hg : W.grownBy w1 u.ownBlock) (hat : u1.ownBlock = u.ownBlock ∨ ∃ b, u1.ownBlock = some b ∧ W.heap.size ≤ b) (hne : ∀ k, ok k → some k ≠ u.ownBlock) (hok : ∀ k, ok k → some k ≠ u1.ownBlock → ok' k) : FBs w1 ok' A n c xs := by
  have hb : FBs W (fun k => ok k ∧ k < W.heap.size) A n c xs := Foot.bound h
  refine (hb.step fun k hk hlt => hg.block k hlt (hne k hk.1)).mono fun k hk => hok k hk.1 fun e => ?_
  rcases hat with h' | ⟨b, hb, hle⟩
  · exact hne k hk.1 (e.trans h')
  · rw [hb] at e
    have := Option.some.inj e
    have := hk.2
    omega
theorem F_grow {W w1 : World} {ok : Nat → Prop} {A : Option Addr} {n : Nat} {xs : List Fr} {u : Value} (h : Kd.F kFr W ok A n xs) (hg : W.grownBy w1 u.ownBlock) (hne : ∀ k, ok k → some k ≠ u.ownBlock) : Kd.F kFr w1 ok A n xs := Kd.F_step h fun k hk hlt => hg.block k hlt (hne k hk)
section
variable {sa : Nat → Addr} {w1 wr w' : World} {g gm j b nm cm : Nat} {most : Int} {ps : List (List Int)} {zs : List Int} {v u : Value} {M : Option Addr}
theorem FStep.next (h : FStep sa w1 wr g gm most ps j zs v b M nm cm) (hb : Below wr.heap.size wr w') : FStep sa w1 w' g gm most ps j zs v b M nm cm :=
  ⟨belowT h.below hb, h.dec.below hb, keepB hb h.box, h.fed.below hb, h.len, h.gm0⟩
/-- Blocks of bytes apart: what is written over. -/
theorem FStep.over {gw : Nat} {cs : Array Value} (h : FStep sa w1 wr g gm most ps j zs v b M nm cm) (hs : Spr wr w' gw 0) (ht : wr.heap[gw]? = some (.cells cs 5 (0, 0))) (hv : some gw ≠ v.ownBlock) (hw : w1.heap.size ≤ gw) (hf : FBs wr (fun k => (k ≠ g ∧ some k ≠ v.ownBlock ∧ k ≠ gm) ∧ k ≠ gw) M nm cm zs) : FStep sa w1 w' g gm most ps j zs v b M nm cm := by
  have hst : ∀ k, k < wr.heap.size → k ≠ gw → w'.heap[k]? = wr.heap[k]? := fun k hk hn => hs.block k hk hn
  have hne : ∀ k cs' t, wr.heap[k]? = some (.cells cs' t (0, 0)) → t ≠ 5 → k ≠ gw := fun k cs' t hk ht' e => by
    subst e
    rw [hk] at ht
    simp only [Option.some.injEq, Obj.cells.injEq] at ht
    exact ht' ht.2.1
  refine ⟨h.below.trans (hs.below hw h.below.size), h.dec.step ?_ (fun k hk => hst k (h.dec.vlt k hk) (fun e => hv (by rw [hk, e]))) (fun e => hst b (h.dec.blt e) (hne _ _ _ (h.dec.dead e).2.1 (by decide))), (hst gm (Array.getElem?_eq_some_iff.1 h.box).1 (hne _ _ _ h.box (by decide))).trans h.box, (hf.step fun k hk hl => hst k hl hk.2).mono fun k hk => hk.1, h.len, h.gm0⟩
  by_cases e : codeX most zs = 0
  · exact hst g h.dec.glt (hne _ _ _ (h.dec.live e).1 (by decide))
  · exact hst g h.dec.glt (hne _ _ _ (h.dec.dead e).1 (by decide))
/-- A list grew. -/
theorem FStep.grow {α : Type} {d : Kd α} {e base : Nat} {ok : Nat → Prop} {xs : List α} (h : FStep sa w1 wr g gm most ps j zs v b M nm cm) (hN : Kd.N d e wr base ok u xs) (he : e ≠ 94 ∧ e ≠ 5 ∧ e ≠ 105 ∧ e ≠ 53) (hg : wr.grownBy w' u.ownBlock) (hb : Below w1.heap.size w1 w') (hf : FBs w' (fun k => k ≠ g ∧ some k ≠ v.ownBlock ∧ k ≠ gm) M nm cm zs) : FStep sa w1 w' g gm most ps j zs v b M nm cm := by
  have hne : ∀ k cs t, wr.heap[k]? = some (.cells cs t (0, 0)) → e ≠ t → some k ≠ u.ownBlock := fun k cs t hk ht e' => by
    obtain ⟨cells, hc⟩ := Kd.N_typed hN k e'.symm
    rw [hk] at hc
    simp only [Option.some.injEq, Obj.cells.injEq] at hc
    exact ht hc.2.1.symm
  refine ⟨hb, h.dec.step ?_ (fun k hk => ?_) (fun e' => hg.block _ (h.dec.blt e') (hne _ _ _ (h.dec.dead e').2.1 he.2.2.1)), (hg.block _ (Array.getElem?_eq_some_iff.1 h.box).1 (hne _ _ _ h.box he.2.2.2)).trans h.box, hf, h.len, h.gm0⟩
  · by_cases e' : codeX most zs = 0
    · exact hg.block _ h.dec.glt (hne _ _ _ (h.dec.live e').1 he.1)
    · exact hg.block _ h.dec.glt (hne _ _ _ (h.dec.dead e').1 he.1)
  · by_cases e' : codeX most zs = 0
    · obtain ⟨cs, hc⟩ := own_typed (h.dec.live e').2 k hk
      exact hg.block _ (h.dec.vlt k hk) (hne _ _ _ hc he.2.1)
    · rw [(h.dec.dead e').2.2] at hk; simp [Value.ownBlock] at hk
end
end Go.Proofs.YtfddhipdedcacaaDoor
/-
  FeedMemory's tail: the lists and the payloads told by their cells.
-/
namespace Go.Proofs.YtfddhipdedcacaaDoor
open Go.RowKit Go.Proofs.YtfddhipdedcacaaDoorW.PrintWords Go.Proofs.YtfddhipdedcacaaDoor.PFeedPieces
set_option linter.unusedVariables false
set_option linter.unusedSimpArgs false
/-- Only blocks of S, and new ones, are other than they were. -/
structure Upd (W w1 : World) (S : Nat → Prop) : Prop where
  os : w1.os = W.os
  tape : w1.tape = W.tape
  output : w1.output = W.output
  size : W.heap.size ≤ w1.heap.size
  block : ∀ k, k < W.heap.size → ¬ S k → w1.heap[k]? = W.heap[k]?
theorem Upd.refl (W : World) (S : Nat → Prop) : Upd W W S := ⟨rfl, rfl, rfl, Nat.le_refl _, fun _ _ _ => rfl⟩
theorem Upd.mono {W w1 : World} {S S' : Nat → Prop} (h : Upd W w1 S) (hs : ∀ k, S k → S' k) : Upd W w1 S' := ⟨h.os, h.tape, h.output, h.size, fun k hk hn => h.block k hk fun e => hn (hs k e)⟩
theorem Upd.trans {W w1 w2 : World} {S : Nat → Prop} (h : Upd W w1 S) (k : Upd w1 w2 S) : Upd W w2 S :=
  ⟨k.os.trans h.os, k.tape.trans h.tape, k.output.trans h.output, Nat.le_trans h.size k.size, fun i hi hn => (k.block i (Nat.lt_of_lt_of_le hi h.size) hn).trans (h.block i hi hn)⟩
theorem Upd.set {W : World} {S : Nat → Prop} {b j : Nat} (hb : S b) (v : Value) : Upd W (W.setCell ⟨b, j, none⟩ v) S :=
  ⟨rfl, rfl, rfl, by simp, fun k hk hn => Below.heap_setCell _ _ _ _ (fun e => hn (by rw [e]; exact hb))⟩
theorem Upd.of_below {W w1 : World} {S : Nat → Prop} (h : Below W.heap.size W w1) : Upd W w1 S := ⟨h.os, h.tape, h.output, h.size, fun k hk _ => h.block k hk⟩
theorem Upd.of_spr {W w1 : World} {S : Nat → Prop} {b lo : Nat} (h : Spr W w1 b lo) (hb : b < W.heap.size → S b) : Upd W w1 S :=
  ⟨h.os, h.tape, h.output, h.size, fun k hk hn => h.block k hk fun e => hn (by subst e; exact hb hk)⟩
theorem Upd.below {W w1 : World} {S : Nat → Prop} {B : Nat} (h : Upd W w1 S) (hB : B ≤ W.heap.size) (hS : ∀ k, k < W.heap.size → S k → B ≤ k) : Below B W w1 :=
  ⟨h.os, h.tape, h.output, h.size, fun k hk => h.block k (by omega) fun hs => by have := hS k (by omega) hs; omega⟩
theorem Upd.cell {W w1 : World} {S : Nat → Prop} (h : Upd W w1 S) {b j : Nat} {v : Value} (hb : ¬ S b) (hv : W.cell? ⟨b, j, none⟩ = some v) : w1.cell? ⟨b, j, none⟩ = some v := by
  rw [World.cell?_of_block (a := ⟨b, j, none⟩) (h.block b (World.block_lt_of_cell? W _ hv) hb)]; exact hv
/-- A row of the call's own by its cells. -/
theorem Own.form {W : World} {base : Nat} {v : Value} {xs : List Int} (h : Own W base v xs) : (v = .slice none 0 0 ∧ xs.length = 0) ∨ ∃ g c, v = .slice (some ⟨g, 0, none⟩) xs.length c ∧ base ≤ g ∧ g < W.heap.size ∧ CR W g 0 xs.length c (fun j => xs.getD j 0) := by
  rcases h.2 with ⟨h1, h0⟩ | ⟨g, cap, cur, rfl, hb, hh, hnc, hm, hs, ht⟩
  · exact .inl ⟨h1, h0⟩
  · refine .inr ⟨g, cap, rfl, hb, (Array.getElem?_eq_some_iff.1 hh).1, hnc, by simpa [maxLen] using hm, fun j hj => ?_, fun j hj => ?_⟩
    · have hown : W.ownsRow base 5 1 (.slice (some ⟨g, 0, none⟩) xs.length cap) xs.length (nums .u8 xs) := h
      rw [Nat.zero_add, hown.cellAt j (by omega)]
      simp [nums, List.getD_eq_getElem?_getD, List.getElem?_eq_getElem hj]
    · have hj' : j < cur.size := by omega
      exact ⟨by simp [World.cell?, hh, hj'], by simp [World.frozen?, hh]⟩
/-- A raw row by its cells. -/
theorem raw_cells {sz e base : Nat} {W : World} {ok : Nat → Prop} {v : Value} {rows : List (List Value)} (h : Kd.N (Kd.raw sz) e W base ok v rows) :
    ∃ A c g, v = .slice A rows.length c ∧ (0 < rows.length → A = some ⟨g, 0, none⟩ ∧ v.ownBlock = some g ∧ base ≤ g ∧ g < W.heap.size) ∧ rows.length ≤ 9223372036854775807 ∧ ∀ i r, rows[i]? = some r → r.length = sz ∧ (∀ j u, r[j]? = some u → W.cell? ⟨g, i * sz + j, none⟩ = some u) ∧ ∀ j, W.frozen? ⟨g, i * sz + j, none⟩ = false := by
  have hmx : rows.length ≤ 9223372036854775807 := by
    obtain ⟨A, c, _, _, hC⟩ := Kd.N_reads h
    exact hC.2.1
  rcases Nat.eq_zero_or_pos rows.length with h0 | h0
  · obtain ⟨A, c, e⟩ := Kd.N_slice h
    exact ⟨A, c, 0, e, fun h1 => by omega, hmx, fun i r hr => by have := (List.getElem?_eq_some_iff.1 hr).1; omega⟩
  · obtain ⟨g, cap, rfl, hb, hl, _⟩ := Kd.N_form h h0
    refine ⟨some ⟨g, 0, none⟩, cap, g, rfl, fun _ => ⟨rfl, by simp [Value.ownBlock], hb, hl⟩, hmx, fun i r hr => ?_⟩
    obtain ⟨hi, hir⟩ := List.getElem?_eq_some_iff.1 hr
    obtain ⟨c, hcl, hK, hcc, hfr⟩ := Kd.N_elem h [] (i : Int) (by omega) (by omega)
    have hc : c = r := by
      have h2 := (Kd.FK_now hK).1
      rw [h2, Int.toNat_natCast, List.getD_eq_getElem?_getD, hr]
      rfl
    subst hc
    simp only [Int.toNat_natCast] at hcc hfr
    exact ⟨hcl, hcc, hfr⟩
/-- The lists that Feed gave, by their cells. -/
structure Lsts (W : World) (base Lb m : Nat) (A : Nat → Option Addr) (n c b : Nat → Nat) : Prop where
  row : ∀ t, t < m → W.cell? ⟨Lb, t, none⟩ = some (.slice (A t) (n t) (c t))
  at_ : ∀ t, t < m → 0 < n t → A t = some ⟨b t, 0, none⟩ ∧ base ≤ b t ∧ b t < W.heap.size ∧ b t ≠ Lb
  there : ∀ t i, t < m → i < n t → (W.cell? ⟨b t, i * 6 + 4, none⟩).isSome = true ∧ W.frozen? ⟨b t, i * 6 + 4, none⟩ = false
  sep : ∀ t t', t < m → t' < m → t ≠ t' → 0 < n t → 0 < n t' → b t ≠ b t'
  max : ∀ t, t < m → n t ≤ 9223372036854775807
theorem Lsts.set {W : World} {base Lb m t i : Nat} {A : Nat → Option Addr} {n c b : Nat → Nat} (h : Lsts W base Lb m A n c b) (ht : t < m) (hi : i < n t) (v : Value) : Lsts (W.setCell ⟨b t, i * 6 + 4, none⟩ v) base Lb m A n c b := by
  obtain ⟨e1, e2, e3, e4⟩ := h.at_ t ht (by omega)
  refine ⟨fun t' ht' => ?_, fun t' ht' hn => by simpa using h.at_ t' ht' hn, fun t' i' ht' hi' => ?_, h.sep, h.max⟩
  · rw [World.cell?_setCell_other _ _ _ _ (by first | (simp; done) | (simp; intro e; exact absurd e.symm e4) | (simp; intro e; exact absurd e e4))]; exact h.row t' ht'
  · obtain ⟨k1, k2⟩ := h.there t' i' ht' hi'
    refine ⟨?_, by simpa using k2⟩
    obtain ⟨x, hx⟩ := Option.isSome_iff_exists.1 k1
    obtain ⟨y, hy⟩ := cell?_setCell_some (p := ⟨b t, i * 6 + 4, none⟩) (x := v) hx
    rw [hy]; rfl
theorem Lsts.upd {W w1 : World} {base Lb m : Nat} {A : Nat → Option Addr} {n c b : Nat → Nat} {S : Nat → Prop} (h : Lsts W base Lb m A n c b) (hu : Upd W w1 S) (hL : 0 < m → ¬ S Lb) (hb : ∀ t, t < m → 0 < n t → ¬ S (b t)) : Lsts w1 base Lb m A n c b := by
  refine ⟨fun t ht => hu.cell (hL (by omega)) (h.row t ht), fun t ht hn => ?_, fun t i ht hi => ?_, h.sep, h.max⟩
  · obtain ⟨e1, e2, e3, e4⟩ := h.at_ t ht hn
    exact ⟨e1, e2, Nat.lt_of_lt_of_le e3 hu.size, e4⟩
  · obtain ⟨e1, e2, e3, e4⟩ := h.at_ t ht (by omega)
    have hbl := hu.block (b t) e3 (hb t ht (by omega))
    obtain ⟨k1, k2⟩ := h.there t i ht hi
    exact ⟨by rw [World.cell?_of_block (a := ⟨b t, i * 6 + 4, none⟩) hbl]; exact k1, (World.frozen?_of_block (a := ⟨b t, i * 6 + 4, none⟩) hbl).trans k2⟩
/-- The frames kept: their payloads' rows by their cells. -/
structure Kpt (W : World) (base Kb m : Nat) (A : Nat → Option Addr) (n c b : Nat → Nat) (f : Nat → Nat → Int) : Prop where
  row : ∀ k, k < m → W.cell? ⟨Kb, k * 6 + 5, none⟩ = some (.slice (A k) (n k) (c k))
  form : ∀ k, k < m → (A k = none ∧ n k = 0 ∧ c k = 0) ∨ (A k = some ⟨b k, 0, none⟩ ∧ base ≤ b k ∧ b k < W.heap.size ∧ b k ≠ Kb ∧ CR W (b k) 0 (n k) (c k) (f k))
  sep : ∀ k k', k < m → k' < m → k ≠ k' → A k ≠ none → A k' ≠ none → b k ≠ b k'
theorem Kpt.at_ {W : World} {base Kb m k : Nat} {A : Nat → Option Addr} {n c b : Nat → Nat} {f : Nat → Nat → Int} (h : Kpt W base Kb m A n c b f) (hk : k < m) (hn : 0 < n k) : A k = some ⟨b k, 0, none⟩ ∧ base ≤ b k ∧ b k < W.heap.size ∧ b k ≠ Kb ∧ CR W (b k) 0 (n k) (c k) (f k) := by
  rcases h.form k hk with h1 | h1
  · omega
  · exact h1
theorem Kpt.congr {W : World} {base Kb m : Nat} {A : Nat → Option Addr} {n c b : Nat → Nat} {f g : Nat → Nat → Int} (h : Kpt W base Kb m A n c b f) (e : ∀ k j, k < m → j < n k → f k j = g k j) : Kpt W base Kb m A n c b g :=
  ⟨h.row, fun k hk => (h.form k hk).imp id fun ⟨h1, h2, h3, h4, h5⟩ => ⟨h1, h2, h3, h4, h5.congr fun j hj => e k j hk hj⟩, h.sep⟩
theorem Kpt.set {W : World} {base Kb m k i : Nat} {A : Nat → Option Addr} {n c b : Nat → Nat} {f : Nat → Nat → Int} (h : Kpt W base Kb m A n c b f) (hk : k < m) (hi : i < n k) (y : Int) : Kpt (W.setCell ⟨b k, i, none⟩ (.int .u8 y)) base Kb m A n c b (fun k' j => if k' = k ∧ j = i then y else f k' j) := by
  obtain ⟨e1, e2, e3, e4, e5⟩ := h.at_ hk (by omega)
  refine ⟨fun t ht => ?_, fun t ht => ?_, h.sep⟩
  · rw [World.cell?_setCell_other _ _ _ _ (by first | (simp; done) | (simp; intro e; exact absurd e.symm e4) | (simp; intro e; exact absurd e e4))]; exact h.row t ht
  · rcases h.form t ht with h1 | ⟨h1, h2, h3, h4, h5⟩
    · exact .inl h1
    · refine .inr ⟨h1, h2, by simpa using h3, h4, ?_⟩
      by_cases e : t = k
      · subst e
        have h6 := e5.set e3 hi y
        rw [Nat.zero_add] at h6
        exact h6.congr fun j hj => by simp
      · exact ((Spr.set (W := W) (b := b k) (lo := 0) (Nat.zero_le _) (.int .u8 y)).cr h5 h3 (fun e' => absurd e' (h.sep t k ht hk e (by rw [h1]; simp) (by rw [e1]; simp)))).congr fun j hj => by simp [e]
theorem Kpt.upd {W w1 : World} {base Kb m : Nat} {A : Nat → Option Addr} {n c b : Nat → Nat} {f : Nat → Nat → Int} {S : Nat → Prop} (h : Kpt W base Kb m A n c b f) (hu : Upd W w1 S) (hK : 0 < m → ¬ S Kb) (hb : ∀ k, k < m → A k ≠ none → ¬ S (b k)) : Kpt w1 base Kb m A n c b f := by
  refine ⟨fun k hk => hu.cell (hK (by omega)) (h.row k hk), fun k hk => (h.form k hk).imp id fun ⟨h1, h2, h3, h4, h5⟩ => ⟨h1, h2, Nat.lt_of_lt_of_le h3 hu.size, h4, ?_⟩, h.sep⟩
  have hbl := hu.block (b k) h3 (hb k hk (by rw [h1]; simp))
  exact ⟨h5.le, h5.max, fun j hj => (World.cell?_of_block (a := ⟨b k, 0 + j, none⟩) hbl).trans (h5.rd j hj), fun j hj => ⟨by rw [World.cell?_of_block (a := ⟨b k, 0 + j, none⟩) hbl]; exact (h5.there j hj).1, (World.frozen?_of_block (a := ⟨b k, 0 + j, none⟩) hbl).trans (h5.there j hj).2⟩⟩
theorem pair_ne {α : Type} {R : α → α → Prop} {l : List α} (h : l.Pairwise R) {i j : Nat} {x y : α} (hi : l[i]? = some x) (hj : l[j]? = some y) (hij : i < j) : R x y := by
  obtain ⟨h1, rfl⟩ := List.getElem?_eq_some_iff.1 hi
  obtain ⟨h2, rfl⟩ := List.getElem?_eq_some_iff.1 hj
  exact List.pairwise_iff_getElem.1 h i j h1 h2 hij
/-- The blocks that the tail writes. -/
abbrev Sx (m : Nat) (gn gb : Nat → Nat) (qn : Nat) (dA : Nat → Option Addr) (db : Nat → Nat) (x : Nat) : Prop := (∃ t, t < m ∧ 0 < gn t ∧ x = gb t) ∨ ∃ k, k < qn ∧ dA k ≠ none ∧ x = db k
theorem Kpt.mx {W : World} {base Kb m k : Nat} {A : Nat → Option Addr} {n c b : Nat → Nat} {f : Nat → Nat → Int} (h : Kpt W base Kb m A n c b f) (hk : k < m) : n k ≤ 9223372036854775807 := by
  rcases h.form k hk with h1 | ⟨h1, h2, h3, h4, h5⟩
  · omega
  · exact Nat.le_trans h5.le h5.max
/-- All lists by their cells. -/
structure Tl (W : World) (base : Nat) (P : Nat → Prop) (kv lv : Value) (Q : List (Fr × Value)) (gl : List Value) (Lb Kb : Nat) (gA : Nat → Option Addr) (gn gc gb : Nat → Nat) (dA : Nat → Option Addr) (dn dc db : Nat → Nat) (f : Nat → Nat → Int) : Prop where
  ls : Lsts W base Lb gl.length gA gn gc gb
  kp : Kpt W base Kb Q.length dA dn dc db f
  lk : 0 < gl.length → 0 < Q.length → Lb ≠ Kb
  lb : 0 < gl.length → base ≤ Lb ∧ lv.ownBlock = some Lb ∧ P Lb
  kb : 0 < Q.length → base ≤ Kb ∧ kv.ownBlock = some Kb ∧ P Kb
  gt : ∀ t, t < gl.length → 0 < gn t → P (gb t) ∧ (0 < Q.length → gb t ≠ Kb) ∧ (∃ cs, W.heap[gb t]? = some (.cells cs 45 (0, 0))) ∧ ∃ x ∈ gl, x.ownBlock = some (gb t)
  dt : ∀ k, k < Q.length → dA k ≠ none → P (db k) ∧ (0 < gl.length → db k ≠ Lb) ∧ (∃ cs, W.heap[db k]? = some (.cells cs 5 (0, 0))) ∧ ∃ q ∈ Q, q.2.ownBlock = some (db k)
theorem Tl.gd {W : World} {base : Nat} {P : Nat → Prop} {kv lv : Value} {Q : List (Fr × Value)} {gl : List Value} {Lb Kb : Nat} {gA : Nat → Option Addr} {gn gc gb : Nat → Nat} {dA : Nat → Option Addr} {dn dc db : Nat → Nat} {f : Nat → Nat → Int} (h : Tl W base P kv lv Q gl Lb Kb gA gn gc gb dA dn dc db f) {t k : Nat} (ht : t < gl.length) (hn : 0 < gn t) (hk : k < Q.length) (hd : dA k ≠ none) : gb t ≠ db k := fun e => by
  obtain ⟨_, _, ⟨c1, h1⟩, _⟩ := h.gt t ht hn
  obtain ⟨_, _, ⟨c2, h2⟩, _⟩ := h.dt k hk hd
  rw [e, h2] at h1
  simp at h1
theorem MRow.tail {W : World} {base : Nat} {P : Nat → Prop} {kv wv lv : Value} {Q : List (Fr × Value)} {fs : List Fr} {gl : List Value} (h : MRow W base P kv wv lv Q Q fs gl gl) :
    ∃ AL cL Lb AK cK Kb gA gn gc gb dA dc db, lv = .slice AL gl.length cL ∧ (0 < gl.length → AL = some ⟨Lb, 0, none⟩) ∧ kv = .slice AK Q.length cK ∧ (0 < Q.length → AK = some ⟨Kb, 0, none⟩) ∧
      Tl W base P kv lv Q gl Lb Kb gA gn gc gb dA (fun k => (Q.map fun q => q.1.f1.length).getD k 0) dc db (fun k j => ((Q.map fun q => q.1.f1).getD k []).getD j 0) := by
  obtain ⟨AL, cL, Lb, e1, e2, e3, e4⟩ := raw_cells h.lists
  obtain ⟨AK, cK, Kb, k1, k2, k3, k4⟩ := raw_cells h.kept
  simp only [List.length_map] at e1 e2 k1 k2
  have each1 : ∀ t, t < gl.length → ∃ p : Option Addr × Nat × Nat × Nat, W.cell? ⟨Lb, t, none⟩ = some (.slice p.1 p.2.1 p.2.2.1) ∧ p.2.1 ≤ 9223372036854775807 ∧ gl[t]? = some (.slice p.1 p.2.1 p.2.2.1) ∧ (0 < p.2.1 → p.1 = some ⟨p.2.2.2, 0, none⟩ ∧ base ≤ p.2.2.2 ∧ p.2.2.2 < W.heap.size ∧ P p.2.2.2 ∧ some p.2.2.2 ≠ kv.ownBlock ∧ (Value.slice p.1 p.2.1 p.2.2.1).ownBlock = some p.2.2.2 ∧ ∃ cs, W.heap[p.2.2.2]? = some (.cells cs 45 (0, 0))) ∧ ∀ i, i < p.2.1 → (W.cell? ⟨p.2.2.2, i * 6 + 4, none⟩).isSome = true ∧ W.frozen? ⟨p.2.2.2, i * 6 + 4, none⟩ = false := fun t ht => by
    have hgt : gl[t]? = some gl[t] := List.getElem?_eq_getElem ht
    obtain ⟨rows, h1⟩ := h.gots gl[t] (List.getElem_mem ht)
    obtain ⟨A, c, g, c1, c2, c3, c4⟩ := raw_cells h1
    obtain ⟨_, r2, _⟩ := e4 t [gl[t]] (by simp [hgt])
    have r3 := r2 0 gl[t] rfl
    rw [Nat.mul_one, Nat.add_zero, c1] at r3
    refine ⟨(A, rows.length, c, g), r3, c3, by rw [hgt, c1], fun hn => ?_, fun i hi => ?_⟩
    · obtain ⟨a1, a2, a3, a4⟩ := c2 hn
      have a5 := h1.1 g a2
      exact ⟨a1, a3, a4, a5.1, a5.2.1, by rw [← c1]; exact a2, Kd.N_typed h1 g a2⟩
    · obtain ⟨l1, l2, l3⟩ := c4 i rows[i] (List.getElem?_eq_getElem hi)
      have h4 : (rows[i])[4]? = some ((rows[i])[4]'(by omega)) := List.getElem?_eq_getElem (by omega)
      exact ⟨by rw [l2 4 _ h4]; rfl, l3 4⟩
  obtain ⟨G, hG⟩ := Deep.choose_lt each1
  have hA := h.dat.away' h.kept (by decide)
  have each2 : ∀ k, k < Q.length → ∃ p : Option Addr × Nat × Nat, W.cell? ⟨Kb, k * 6 + 5, none⟩ = some (.slice p.1 ((Q.map fun q => q.1.f1.length).getD k 0) p.2.1) ∧ ((p.1 = none ∧ (Q.map fun q => q.1.f1.length).getD k 0 = 0 ∧ p.2.1 = 0) ∨ (p.1 = some ⟨p.2.2, 0, none⟩ ∧ base ≤ p.2.2 ∧ p.2.2 < W.heap.size ∧ p.2.2 ≠ Kb ∧ CR W p.2.2 0 ((Q.map fun q => q.1.f1.length).getD k 0) p.2.1 (fun j => ((Q.map fun q => q.1.f1).getD k []).getD j 0))) ∧ (p.1 ≠ none → P p.2.2 ∧ (∃ cs, W.heap[p.2.2]? = some (.cells cs 5 (0, 0))) ∧ ∃ q, Q[k]? = some q ∧ q.2.ownBlock = some p.2.2) := fun k hk => by
    have hq : Q[k]? = some Q[k] := List.getElem?_eq_getElem hk
    have hm : Q[k] ∈ Q := List.getElem_mem hk
    obtain ⟨_, r2, _⟩ := k4 k (cellsOf Q[k]) (by simp [hq])
    have r3 := r2 5 Q[k].2 rfl
    have n1 : (Q.map fun q => q.1.f1.length).getD k 0 = Q[k].1.f1.length := by simp [List.getD_eq_getElem?_getD, hq]
    have n2 : (Q.map fun q => q.1.f1).getD k [] = Q[k].1.f1 := by simp [List.getD_eq_getElem?_getD, hq]
    rw [n1, n2]
    rcases (h.dat.own _ hm).form with ⟨f1, f2⟩ | ⟨g, c, f1, f2, f3, f4⟩
    · refine ⟨(none, 0, 0), by rw [f2]; rw [f1] at r3; exact r3, .inl ⟨rfl, f2, rfl⟩, fun hne => absurd rfl hne⟩
    · have f5 : Q[k].2.ownBlock = some g := by rw [f1]; simp [Value.ownBlock]
      have f6 := hA.ok _ hm g f5
      refine ⟨(some ⟨g, 0, none⟩, c, g), by rw [f1] at r3; exact r3, .inr ⟨rfl, f2, f3, fun e => ?_, f4⟩, fun _ => ⟨f6.1, own_typed (h.dat.own _ hm) g f5, Q[k], hq, f5⟩⟩
      have f7 := (k2 (by omega)).2.1
      exact f6.2 (by rw [f7]; exact congrArg some e)
  obtain ⟨D, hD⟩ := Deep.choose_lt each2
  refine ⟨AL, cL, Lb, AK, cK, Kb, fun t => (G t).1, fun t => (G t).2.1, fun t => (G t).2.2.1, fun t => (G t).2.2.2, fun k => (D k).1, fun k => (D k).2.1, fun k => (D k).2.2, e1, fun h0 => (e2 h0).1, k1, fun h0 => (k2 h0).1, ⟨⟨fun t ht => (hG t ht).1, fun t ht hn => ?_, fun t i ht hi => (hG t ht).2.2.2.2 i hi, fun t t' ht ht' hne h1 h2 e => ?_, fun t ht => (hG t ht).2.1⟩, ⟨fun k hk => (hD k hk).1, fun k hk => (hD k hk).2.1, fun k k' hk hk' hne h1 h2 e => ?_⟩, fun h1 h2 e => ?_, fun h0 => ⟨(e2 h0).2.2.1, (e2 h0).2.1, h.lists.1 _ (e2 h0).2.1⟩, fun h0 => ⟨(k2 h0).2.2.1, (k2 h0).2.1, h.kept.1 _ (k2 h0).2.1⟩, fun t ht hn => ?_, fun k hk hn => ?_⟩⟩
  · obtain ⟨a1, a2, a3, a4, a5, a6, cs, a7⟩ := (hG t ht).2.2.2.1 hn
    refine ⟨a1, a2, a3, fun e => ?_⟩
    obtain ⟨cs', hc⟩ := Kd.N_typed h.lists Lb (e2 (by omega)).2.1
    rw [← show (G t).2.2.2 = Lb from e, a7] at hc
    simp at hc
  · have g1 := ((hG t ht).2.2.2.1 h1).2.2.2.2.2.1
    have g2 := ((hG t' ht').2.2.2.1 h2).2.2.2.2.2.1
    rcases Nat.lt_or_gt_of_ne hne with hl | hl
    · exact pair_ne h.sep (hG t ht).2.2.1 (hG t' ht').2.2.1 hl _ g1 (by rw [g2]; exact congrArg some e.symm)
    · exact pair_ne h.sep (hG t' ht').2.2.1 (hG t ht).2.2.1 hl _ g2 (by rw [g1]; exact congrArg some e)
  · obtain ⟨q1, q2, q3⟩ := ((hD k hk).2.2 h1).2.2
    obtain ⟨q4, q5, q6⟩ := ((hD k' hk').2.2 h2).2.2
    rcases Nat.lt_or_gt_of_ne hne with hl | hl
    · exact pair_ne h.dat.sep q2 q5 hl _ q3 (by rw [q6]; exact congrArg some e.symm)
    · exact pair_ne h.dat.sep q5 q2 hl _ q6 (by rw [q3]; exact congrArg some e)
  · exact N_ty h.lists h.kept (by decide) Lb (e2 h1).2.1 (by rw [(k2 h2).2.1, e])
  · obtain ⟨a1, a2, a3, a4, a5, a6, a7⟩ := (hG t ht).2.2.2.1 hn
    exact ⟨a4, fun h0 e => a5 (by rw [(k2 h0).2.1]; exact congrArg some e), a7, _, List.mem_of_getElem? (hG t ht).2.2.1, a6⟩
  · obtain ⟨a1, ⟨cs, a2⟩, q, a3, a4⟩ := (hD k hk).2.2 hn
    refine ⟨a1, fun h0 e => ?_, ⟨cs, a2⟩, q, List.mem_of_getElem? a3, a4⟩
    obtain ⟨cs', hc⟩ := Kd.N_typed h.lists Lb (e2 h0).2.1
    rw [← show (D k).2.2 = Lb from e, a2] at hc
    simp at hc
end Go.Proofs.YtfddhipdedcacaaDoor
/-
  FeedMemory's growing: append to a payload, nil or not.
-/
namespace Go.Proofs.YtfddhipdedcacaaDoor
open Go.RowKit Go.Proofs.YtfddhipdedcacaaDoorW.PrintWords Go.Proofs.YtfddhipdedcacaaDoor.PFeedPieces
set_option linter.unusedVariables false
set_option linter.unusedSimpArgs false
theorem CR.blk {W w1 : World} {b o n c : Nat} {f : Nat → Int} (h : CR W b o n c f) (e : w1.heap[b]? = W.heap[b]?) : CR w1 b o n c f :=
  ⟨h.le, h.max, fun j hj => (World.cell?_of_block (a := ⟨b, o + j, none⟩) e).trans (h.rd j hj), fun j hj => ⟨by rw [World.cell?_of_block (a := ⟨b, o + j, none⟩) e]; exact (h.there j hj).1, (World.frozen?_of_block (a := ⟨b, o + j, none⟩) e).trans (h.there j hj).2⟩⟩
/-- A list of n bytes: nil, or in block bb from its head, or in a block that is new since B0. -/
def GR (B0 : Nat) (W : World) (v : Value) (n : Nat) (f : Nat → Int) (bb : Nat) : Prop :=
  (v = .slice none 0 0 ∧ n = 0) ∨ ∃ b o c, v = .slice (some ⟨b, o, none⟩) n c ∧ CR W b o n c f ∧ b < W.heap.size ∧ (b = bb ∧ o = 0 ∨ B0 ≤ b)
theorem one_bs (w : World) (y : Int) (h0 : 0 ≤ y) (h1 : y ≤ 255) : Bs (w.alloc (.cells #[.int .u8 y] 5)) (some ⟨w.heap.size, 0, none⟩) 1 1 [y] :=
  own_bs (own_new w w.heap.size [y] (Nat.le_refl _) (by simp)) (by intro x hx; rw [List.mem_singleton.1 hx]; exact ⟨h0, h1⟩)
theorem gr_append {W0 W : World} {ops : Array Oper} {rest : List Oper} {o : Oper} {a : Act} {Q : Exit → Act → World → Prop} (hgd : o.guard = none) (s x : Operand)
    (ho : o.op = .call { callee := .builtin .append, args := #[s, x], argTypes := #[38, 38] })
    (v : Value) (n lo bb : Nat) (f : Nat → Int) (y : Int) (hs : a.eval s = v) (hx : a.eval x = .slice (some ⟨W.heap.size, 0, none⟩) 1 1) (hG : GR W0.heap.size W v n f bb) (hS : Spr W0 W bb lo) (hlo : lo ≤ n) (hy : f n = y) (h0 : 0 ≤ y) (h1 : y ≤ 255) (hn : n ≤ 1000000000000)
    (h : ∀ v1 w1, GR W0.heap.size w1 v1 (n + 1) f bb → Spr W0 w1 bb lo → wpList Tryd.prog ops Q rest (a.put o.dst v1) w1) :
    wpList Tryd.prog ops Q (o :: rest) a (W.alloc (.cells #[.int .u8 y] 5)) := by
  rcases hG with ⟨rfl, rfl⟩ | ⟨b, o', c, rfl, hC, hb, hw⟩
  · refine wpList_append_bs hgd s x ho W.heap.size (.slice none 0 0) [] hs ⟨rfl, .inl ⟨rfl, rfl⟩⟩ (some ⟨W.heap.size, 0, none⟩) 1 1 [y] hx (one_bs W y h0 h1) (by simp) (by simp) ?_
    intro v' w' ho' hg _
    have hb' : Below W.heap.size W w' := ((Below.refl _ _).alloc (Nat.le_refl _) _).grown hg (by simp) (fun k hk => by simp [Value.ownBlock] at hk)
    rw [List.nil_append] at ho'
    obtain ⟨g, c, e, g1, g2, g3⟩ := ho'.cr (by simp)
    refine h v' w' (.inr ⟨g, 0, c, e, g3.congr fun j hj => ?_, g2, .inr (by have := hS.size; omega)⟩) (hS.trans (Spr.of_below hb'))
    obtain rfl : j = 0 := by simp at hj; omega
    simpa using hy.symm
  · refine cr_append hgd s x ho b o' n c f y hs hx hC hb hy hn ?_
    intro b1 o1 c1 w1 k1 k2 k3 k4
    have hz := hS.size
    refine h _ w1 (.inr ⟨b1, o1, c1, rfl, k1, k3, ?_⟩) ?_
    · rcases k2 with ⟨e1, e2⟩ | e1
      · rw [e1, e2]; exact hw
      · exact .inr (by omega)
    · rcases hw with ⟨e1, e2⟩ | e1
      · subst e1 e2
        exact hS.trans (k4.mono (by omega))
      · exact hS.fresh k4 e1
theorem cut_pay (most : Int) (xs : List Int) : ∀ p ∈ (cut most xs).1, p.f1.length ≤ xs.length := by
  induction hn : xs.length using Nat.strongRecOn generalizing xs with
  | _ n ih =>
    subst hn
    by_cases h12 : xs.length < 12
    · rw [cut_short h12]; intro p hp; cases hp
    · by_cases hc : chkX most xs = 0
      · by_cases hp : xs.length - 12 < szX xs
        · rw [cut_part h12 hc hp]; intro p hp; cases hp
        · rw [cut_go h12 hc hp]
          intro p hp
          rcases List.mem_cons.1 hp with rfl | hp
          · simp; omega
          · have := ih (xs.drop (12 + szX xs)).length (by simp; omega) _ rfl p hp
            simp at this
            omega
      · rw [cut_bad h12 hc]; intro p hp; cases hp
theorem pay_le {most : Int} {zs : List Int} {Q : List (Fr × Value)} {B : Nat} (h : Q.map Prod.fst = framesX most zs) (hz : zs.length ≤ B) (k : Nat) : (Q.map fun q => q.1.f1.length).getD k 0 ≤ B := by
  rw [List.getD_eq_getElem?_getD, List.getElem?_map]
  cases e : Q[k]? with
  | none => simp
  | some q =>
    have hm : q.1 ∈ framesX most zs := by rw [← h]; exact List.mem_map_of_mem (List.mem_of_getElem? e)
    have := cut_pay most zs q.1 hm
    simp
    omega
/-- Payload k grew. -/
theorem Kpt.spr {W w1 : World} {base Kb m k : Nat} {A : Nat → Option Addr} {n c b : Nat → Nat} {f : Nat → Nat → Int} {bb : Nat} (h : Kpt W base Kb m A n c b f) (hk : k < m) (hs : Spr W w1 bb (n k)) (hbb : A k ≠ none → bb = b k) (hno : A k = none → W.heap.size ≤ bb) : Kpt w1 base Kb m A n c b f := by
  have hKb : ∀ v j, W.cell? ⟨Kb, j, none⟩ = some v → w1.cell? ⟨Kb, j, none⟩ = some v := fun v j hv => by
    have hl := World.block_lt_of_cell? W _ hv
    rw [World.cell?_of_block (a := ⟨Kb, j, none⟩) (hs.block Kb hl (fun e => ?_))]
    · exact hv
    · by_cases hA : A k = none
      · have := hno hA
        simp at hl
        omega
      · rcases h.form k hk with h1 | ⟨h1, h2, h3, h4, h5⟩
        · exact hA h1.1
        · exact h4 ((hbb hA).symm.trans e.symm)
  refine ⟨fun t ht => hKb _ _ (h.row t ht), fun t ht => (h.form t ht).imp id fun ⟨h1, h2, h3, h4, h5⟩ => ⟨h1, h2, Nat.lt_of_lt_of_le h3 hs.size, h4, hs.cr h5 h3 fun e => ?_⟩, h.sep⟩
  by_cases hA : A k = none
  · have := hno hA; omega
  · by_cases et : t = k
    · rw [et]; omega
    · exact absurd (e.trans (hbb hA)) (h.sep t k ht hk et (by rw [h1]; simp) hA)
theorem Kpt.GR {W : World} {base Kb m k : Nat} {A : Nat → Option Addr} {n c b : Nat → Nat} {f : Nat → Nat → Int} {B0 bb : Nat} (h : Kpt W base Kb m A n c b f) (hk : k < m) (hbb : A k ≠ none → bb = b k) : GR B0 W (.slice (A k) (n k) (c k)) (n k) (f k) bb := by
  rcases h.form k hk with ⟨h1, h2, h3⟩ | ⟨h1, h2, h3, h4, h5⟩
  · exact .inl ⟨by rw [h1, h2, h3], h2⟩
  · exact .inr ⟨b k, 0, c k, by rw [h1], h5, h3, .inl ⟨(hbb (by rw [h1]; simp)).symm, rfl⟩⟩
theorem Upd.next {W w1 w2 : World} {S S' : Nat → Prop} (h : Upd W w1 S) (k : Upd w1 w2 S') (hs : ∀ q, q < W.heap.size → S' q → S q) : Upd W w2 S :=
  ⟨k.os.trans h.os, k.tape.trans h.tape, k.output.trans h.output, Nat.le_trans h.size k.size, fun i hi hn => (k.block i (Nat.lt_of_lt_of_le hi h.size) fun e => hn (hs i hi e)).trans (h.block i hi hn)⟩
theorem Upd.of_grown {W w1 : World} {base : Nat} {u : Value} (hb : Below base W w1) (hg : W.grownBy w1 u.ownBlock) : Upd W w1 (fun q => some q = u.ownBlock) := ⟨hb.os, hb.tape, hb.output, hb.size, fun k hk hn => hg.block k hk hn⟩
theorem CR.upd {W w1 : World} {b o n c : Nat} {f : Nat → Int} {S : Nat → Prop} (h : CR W b o n c f) (hb : b < W.heap.size) (hu : Upd W w1 S) (hn : ¬ S b) : CR w1 b o n c f := h.blk (hu.block b hb hn)
theorem GR.congr {B0 : Nat} {W : World} {v : Value} {n : Nat} {f g : Nat → Int} {bb : Nat} (h : GR B0 W v n f bb) (e : ∀ j, j < n → f j = g j) : GR B0 W v n g bb := by
  rcases h with h | ⟨b, o, c, h1, h2, h3, h4⟩
  · exact .inl h
  · exact .inr ⟨b, o, c, h1, h2.congr e, h3, h4⟩
theorem FStep.upd {sa : Nat → Addr} {w1 wr w' : World} {g gm j b nm cm : Nat} {most : Int} {ps : List (List Int)} {zs : List Int} {v : Value} {M : Option Addr} {S : Nat → Prop} (h : FStep sa w1 wr g gm most ps j zs v b M nm cm) (hu : Upd wr w' S) (hS : ∀ q, S q → w1.heap.size ≤ q ∧ q ≠ g ∧ some q ≠ v.ownBlock ∧ q ≠ gm ∧ ∃ cs t, wr.heap[q]? = some (.cells cs t (0, 0)) ∧ t ≠ 105)
    (hf : FBs wr (fun k => (k ≠ g ∧ some k ≠ v.ownBlock ∧ k ≠ gm) ∧ ¬ S k) M nm cm zs) : FStep sa w1 w' g gm most ps j zs v b M nm cm := by
  refine ⟨h.below.trans (hu.below h.below.size fun k _ hk => (hS k hk).1), h.dec.step (hu.block g h.dec.glt fun e => (hS g e).2.1 rfl) (fun k hk => hu.block k (h.dec.vlt k hk) fun e => (hS k e).2.2.1 hk.symm) (fun e => hu.block b (h.dec.blt e) fun e' => ?_), (hu.block gm (Array.getElem?_eq_some_iff.1 h.box).1 fun e => (hS gm e).2.2.2.1 rfl).trans h.box, (hf.step fun k hk hl => hu.block k hl hk.2).mono fun k hk => hk.1, h.len, h.gm0⟩
  obtain ⟨cs, t, h1, h2⟩ := (hS b e').2.2.2.2
  rw [(h.dec.dead e).2.1] at h1
  simp only [Option.some.injEq, Obj.cells.injEq] at h1
  exact h2 h1.2.1.symm
end Go.Proofs.YtfddhipdedcacaaDoor
