/-
 Rows of bytes told by their cells; an append that may write into a row's spare room.
-/
import Derived.Test.YtidmgckmphcegaaGreatDoorMB
import Derived.ArgAppend
namespace Go.Proofs.YtidmgckmphcegaaGreatDoor
open Go.RowKit
set_option linter.unusedVariables false
set_option linter.unusedSimpArgs false
structure CR (W : World) (b o n c : Nat) (f : Nat → Int) : Prop where
 le : n ≤ c
 max : c ≤ 9223372036854775807
 rd : ∀ j, j < n → W.cell? ⟨b, o + j, none⟩ = some (.int .u8 (f j))
 there : ∀ j, j < c → (W.cell? ⟨b, o + j, none⟩).isSome = true ∧ W.frozen? ⟨b, o + j, none⟩ = false
structure Spr (W w1 : World) (b lo : Nat) : Prop where
 os : w1.os = W.os
 tape : w1.tape = W.tape
 output : w1.output = W.output
 size : W.heap.size ≤ w1.heap.size
 block : ∀ k, k < W.heap.size → k ≠ b → w1.heap[k]? = W.heap[k]?
 cell : ∀ j, b < W.heap.size → j < lo → w1.cell? ⟨b, j, none⟩ = W.cell? ⟨b, j, none⟩
 there : ∀ j, b < W.heap.size → (W.cell? ⟨b, j, none⟩).isSome = true → (w1.cell? ⟨b, j, none⟩).isSome = true
 frozen : ∀ j, b < W.heap.size → w1.frozen? ⟨b, j, none⟩ = W.frozen? ⟨b, j, none⟩
theorem Spr.refl (W : World) (b lo : Nat) : Spr W W b lo := ⟨rfl, rfl, rfl, Nat.le_refl _, fun _ _ _ => rfl, fun _ _ _ => rfl, fun _ _ h => h, fun _ _ => rfl⟩
theorem Spr.of_below {W w1 : World} {b lo : Nat} (h : Below W.heap.size W w1) : Spr W w1 b lo :=
 ⟨h.os, h.tape, h.output, h.size, fun k hk _ => h.block k hk, fun j hb _ => h.cell (p := ⟨b, j, none⟩) hb, fun j hb hs => by rw [h.cell (p := ⟨b, j, none⟩) hb]; exact hs, fun j hb => h.frozen (p := ⟨b, j, none⟩) hb⟩
theorem Spr.trans {W w1 w2 : World} {b lo : Nat} (h : Spr W w1 b lo) (k : Spr w1 w2 b lo) : Spr W w2 b lo :=
 ⟨k.os.trans h.os, k.tape.trans h.tape, k.output.trans h.output, Nat.le_trans h.size k.size, fun i hi hn => (k.block i (Nat.lt_of_lt_of_le hi h.size) hn).trans (h.block i hi hn), fun j hb hj => (k.cell j (Nat.lt_of_lt_of_le hb h.size) hj).trans (h.cell j hb hj), fun j hb hs => k.there j (Nat.lt_of_lt_of_le hb h.size) (h.there j hb hs), fun j hb => (k.frozen j (Nat.lt_of_lt_of_le hb h.size)).trans (h.frozen j hb)⟩
theorem Spr.mono {W w1 : World} {b lo lo' : Nat} (h : Spr W w1 b lo) (hl : lo' ≤ lo) : Spr W w1 b lo' := ⟨h.os, h.tape, h.output, h.size, h.block, fun j hb hj => h.cell j hb (by omega), h.there, h.frozen⟩
theorem Spr.fresh {W w1 w2 : World} {b lo b' lo' : Nat} (h : Spr W w1 b lo) (k : Spr w1 w2 b' lo') (hb' : W.heap.size ≤ b') : Spr W w2 b lo := by
 have hblk : ∀ i, i < W.heap.size → w2.heap[i]? = w1.heap[i]? := fun i hi => k.block i (Nat.lt_of_lt_of_le hi h.size) (by omega)
 exact ⟨k.os.trans h.os, k.tape.trans h.tape, k.output.trans h.output, Nat.le_trans h.size k.size, fun i hi hn => (hblk i hi).trans (h.block i hi hn),
  fun j hb hj => (World.cell?_of_block (a := ⟨b, j, none⟩) (hblk b hb)).trans (h.cell j hb hj), fun j hb hs => by rw [World.cell?_of_block (a := ⟨b, j, none⟩) (hblk b hb)]; exact h.there j hb hs, fun j hb => (World.frozen?_of_block (a := ⟨b, j, none⟩) (hblk b hb)).trans (h.frozen j hb)⟩
theorem Spr.alloc (W : World) (b lo : Nat) (o : Obj) : Spr W (W.alloc o) b lo := Spr.of_below ba_
theorem Spr.set {W : World} {b lo i : Nat} (hi : lo ≤ i) (v : Value) : Spr W (W.setCell ⟨b, i, none⟩ v) b lo :=
 ⟨rfl, rfl, rfl, by simp, fun k hk hn => Below.heap_setCell _ _ _ _ hn, fun j hb hj => World.cell?_setCell_other _ _ _ _ (by simp <;> omega), fun j hb hs => by
  obtain ⟨x, hx⟩ := Option.isSome_iff_exists.1 hs
  obtain ⟨y, hy⟩ := cell?_setCell_some (p := ⟨b, i, none⟩) (x := v) hx
  rw [hy]; rfl, fun j hb => by simp⟩
theorem Spr.below {W w1 : World} {b lo B : Nat} (h : Spr W w1 b lo) (hb : B ≤ b) (hB : B ≤ W.heap.size) : Below B W w1 := ⟨h.os, h.tape, h.output, h.size, fun k hk => h.block k (by omega) (by omega)⟩
theorem Spr.cr {W w1 : World} {b lo : Nat} (h : Spr W w1 b lo) {b' o n c : Nat} {f : Nat → Int} (hC : CR W b' o n c f) (hb : b' < W.heap.size) (hn : b' = b → o + n ≤ lo) : CR w1 b' o n c f := by
 refine ⟨hC.le, hC.max, fun j hj => ?_, fun j hj => ?_⟩
 · by_cases e : b' = b
   · subst e
     rw [h.cell (o + j) hb (by have := hn rfl; omega)]; exact hC.rd j hj
   · rw [World.cell?_of_block (a := ⟨b', o + j, none⟩) (h.block b' hb e)]; exact hC.rd j hj
 · by_cases e : b' = b
   · subst e
     exact ⟨h.there _ hb (hC.there j hj).1, (h.frozen _ hb).trans (hC.there j hj).2⟩
   · exact ⟨by rw [World.cell?_of_block (a := ⟨b', o + j, none⟩) (h.block b' hb e)]; exact (hC.there j hj).1, (World.frozen?_of_block (a := ⟨b', o + j, none⟩) (h.block b' hb e)).trans (hC.there j hj).2⟩
theorem CR.below {W w1 : World} {b o n c : Nat} {f : Nat → Int} (h : CR W b o n c f) (hb : b < W.heap.size) (hB : Below W.heap.size W w1) : CR w1 b o n c f := (Spr.of_below (b := b) (lo := o + n) hB).cr h hb fun _ => Nat.le_refl _
theorem CR.pre {W : World} {b o n c m : Nat} {f : Nat → Int} (h : CR W b o n c f) (hm : m ≤ n) : CR W b o m c f := ⟨Nat.le_trans hm h.le, h.max, fun j hj => h.rd j (by omega), h.there⟩
theorem CR.congr {W : World} {b o n c : Nat} {f g : Nat → Int} (h : CR W b o n c f) (e : ∀ j, j < n → f j = g j) : CR W b o n c g := ⟨h.le, h.max, fun j hj => by rw [← e j hj]; exact h.rd j hj, h.there⟩
theorem Own.cr {W : World} {base : Nat} {v : Value} {xs : List Int} (h : Own W base v xs) (hn : 0 < xs.length) : ∃ g c, v = .slice (some ⟨g, 0, none⟩) xs.length c ∧ base ≤ g ∧ g < W.heap.size ∧ CR W g 0 xs.length c (fun j => xs.getD j 0) := by
 rcases h.2 with ⟨_, h0⟩ | ⟨g, cap, cur, rfl, hb, hh, hnc, hm, hs, ht⟩
 · omega
 · refine ⟨g, cap, rfl, hb, (Array.getElem?_eq_some_iff.1 hh).1, hnc, by simpa [maxLen] using hm, fun j hj => ?_, fun j hj => ?_⟩
   · have hown : W.ownsRow base 5 1 (.slice (some ⟨g, 0, none⟩) xs.length cap) xs.length (nums .u8 xs) := h
     rw [Nat.zero_add, hown.cellAt j (by omega)]
     simp [nums, List.getD_eq_getElem?_getD, List.getElem?_eq_getElem hj]
   · have hj' : j < cur.size := by omega
     exact ⟨by simp [World.cell?, hh, hj'], by simp [World.frozen?, hh]⟩
theorem cr_append {W : World} {ops : Array Oper} {rest : List Oper} {o : Oper} {a : Act} {Q : Exit → Act → World → Prop} (hgd : o.guard = none) (s x : Operand)
    (ho : o.op = .call { callee := .builtin .append, args := #[s, x], argTypes := #[26, 26] })
    (b o' n c : Nat) (f : Nat → Int) (y : Int) (hs : a.eval s = .slice (some ⟨b, o', none⟩) n c) (hx : a.eval x = .slice (some ⟨W.heap.size, 0, none⟩) 1 1) (hC : CR W b o' n c f) (hb : b < W.heap.size) (hy : f n = y) (hn : n ≤ 1000000000000)
    (h : ∀ b1 o1 c1 w1, CR w1 b1 o1 (n + 1) c1 f → (b1 = b ∧ o1 = o' ∨ W.heap.size ≤ b1) → b1 < w1.heap.size → Spr W w1 b (o' + n) → wpList Tryz.prog ops Q rest (a.put o.dst (.slice (some ⟨b1, o1, none⟩) (n + 1) c1)) w1) :
    wpList Tryz.prog ops Q (o :: rest) a (W.alloc (.cells #[.int .u8 y] 5)) := by
 obtain ⟨i0, hi, hz0, hz1, hz2⟩ := info_parts u8_info
 have hba : Below W.heap.size W (W.alloc (.cells #[.int .u8 y] 5)) := (Below.refl _ _).alloc (Nat.le_refl _) _
 have hC' := hC.below hb hba
 have hbox : (W.alloc (.cells #[.int .u8 y] 5)).heap[W.heap.size]? = some (.cells #[.int .u8 y] 5 (0, 0)) := alloc_at _ _
 have hsz : (W.alloc (.cells #[.int .u8 y] 5)).heap.size = W.heap.size + 1 := by simp
 refine wpList_append_arg _ hgd s x 26 ho 5 i0 (.int .u8 0) 1 1 Tryz.underlying26 hi hz0 hz1 hz2 rfl (by decide) b o' n c ((List.range n).map fun j => .int .u8 (f j)) hs (by simp) (fun j u hu => ?_) ⟨W.heap.size, 0, none⟩ 1 1 [.int .u8 y] hx rfl (fun j u hu => ?_) (by simp [Value.oneCell']) (fun hr j hj => ?_) (by unfold maxLen; omega) (by omega) (fun hr => ?_) (fun hg v' w' ho' hgr => ?_)
 · simp only [List.getElem?_map] at hu
   obtain ⟨i, h1, rfl⟩ := Option.map_eq_some_iff.1 hu
   obtain ⟨h2, h3⟩ := List.getElem?_eq_some_iff.1 h1
   simp at h2 h3
   subst h3
   exact hC'.rd j h2
 · rcases j with _ | j
   · simp at hu; subst hu; rw [Addr.add_lit]; exact cell_blk hbox rfl
   · simp at hu
 · simp at hj; subst hj
   rw [Nat.mul_one, Nat.add_zero]
   exact hC'.there n (by omega)
 · rw [Nat.mul_one]
   have e : (W.alloc (.cells #[.int .u8 y] 5)).setCells b (o' + n) [.int .u8 y] = (W.alloc (.cells #[.int .u8 y] 5)).setCell ⟨b, o' + n, none⟩ (.int .u8 y) := rfl
   rw [e]
   have hsp : Spr (W.alloc (.cells #[.int .u8 y] 5)) _ b (o' + n) := Spr.set (Nat.le_refl _) (.int .u8 y)
   have hlt : b < (W.alloc (.cells #[.int .u8 y] 5)).heap.size := by omega
   refine h b o' c _ ⟨by omega, hC'.max, fun j hj => ?_, fun j hj => ⟨hsp.there _ hlt (hC'.there j hj).1, (hsp.frozen _ hlt).trans (hC'.there j hj).2⟩⟩ (.inl ⟨rfl, rfl⟩) (by simp; omega) ((Spr.alloc W b (o' + n) _).trans hsp)
   by_cases hjn : j = n
   · subst hjn
     obtain ⟨z, hz⟩ := Option.isSome_iff_exists.1 (hC'.there j (by omega)).1
     rw [World.cell?_setCell_same _ _ _ hz, hy]
   · rw [hsp.cell _ hlt (by omega)]
     exact hC'.rd j (by omega)
 · rcases ho'.2 with ⟨_, h0⟩ | ⟨g, cap, cur, rfl, hb', hh, hnc, hm, hs', ht⟩
   · omega
   · rw [hsz] at hb'
     have hsp : Spr (W.alloc (.cells #[.int .u8 y] 5)) w' b (o' + n) := Spr.of_below ⟨hgr.os, hgr.tape, hgr.output, hgr.size, fun k hk => hgr.block k hk (by simp)⟩
     refine h g 0 cap w' ⟨hnc, by simpa [maxLen] using hm, fun j hj => ?_, fun j hj => ?_⟩ (.inr (by omega)) (Array.getElem?_eq_some_iff.1 hh).1 ((Spr.alloc W b (o' + n) _).trans hsp)
     · rw [Nat.zero_add, ho'.cellAt j (by omega)]
       by_cases hjn : j = n
       · subst hjn
         rw [List.getElem?_append_right (by simp)]
         simp [hy]
       · rw [List.getElem?_append_left (by simp; omega)]
         simp [show j < n by omega]
     · have hj' : j < cur.size := by omega
       exact ⟨by simp [World.cell?, hh, hj'], by simp [World.frozen?, hh]⟩
end Go.Proofs.YtidmgckmphcegaaGreatDoor
