/-
  frame.Text: the header in words.
-/
import Derived.Test.YtfddhipdedcacaaDoorFmt
import Derived.Test.YtfddhipdedcacaaDoorEnc
import Derived.Test.YtfddhipdedcacaaDoorDec
import Derived.Deep.AppendLies
import Derived.Deep.RegionLaw
import Derived.Deep.DeepCutAuto
import Derived.Deep.LoopGhost
namespace Go.Proofs.YtfddhipdedcacaaDoor
open Go.RowKit
set_option linter.unusedVariables false
set_option linter.unusedSimpArgs false

def strs (xs : List ByteArray) : List Value := xs.map .string
theorem strs_len (xs : List ByteArray) : (strs xs).length = xs.length := by simp [strs]
theorem strs_app (xs ys : List ByteArray) : strs (xs ++ ys) = strs xs ++ strs ys := by simp [strs]
theorem str_info : (Tryd.prog.info? 9).map (fun i => (i.zero, i.size, i.bytes)) = some (some (.string ⟨#[]⟩), 1, 16) := by kernel_rfl
/-- A box that holds a list of strings of the call's own. -/
structure Say (w : World) (bx base : Nat) (v : Value) (xs : List ByteArray) : Prop where
  box : w.heap[bx]? = some (.cells #[v] 110 (0, 0))
  own : w.ownsRow base 9 1 v xs.length (strs xs)
  ne : v.ownBlock ≠ some bx
  le : base ≤ bx
theorem Say.lt {w : World} {bx base : Nat} {v : Value} {xs : List ByteArray} (h : Say w bx base v xs) : bx < w.heap.size := (Array.getElem?_eq_some_iff.1 h.box).1
theorem Say.next {w w' : World} {bx base : Nat} {v : Value} {xs : List ByteArray} (h : Say w bx base v xs) (hb : Below w.heap.size w w') : Say w' bx base v xs :=
  ⟨(hb.block _ h.lt).trans h.box, own_below h.own hb, h.ne, h.le⟩
theorem Say.cell {w : World} {bx base : Nat} {v : Value} {xs : List ByteArray} (h : Say w bx base v xs) : w.cell? ⟨bx, 0, none⟩ = some v := cell_blk h.box rfl
theorem Say.free {w : World} {bx base : Nat} {v : Value} {xs : List ByteArray} (h : Say w bx base v xs) : w.frozen? ⟨bx, 0, none⟩ = false := free_blk h.box
theorem own_set_other {w : World} {base : Nat} {e : TypeId} {g n c : Nat} {xs : List Value} {bx j : Nat} (u : Value) (hne : g ≠ bx) (h : w.ownsRow base e 1 (.slice (some ⟨g, 0, none⟩) n c) n xs) :
    (w.setCell ⟨bx, j, none⟩ u).ownsRow base e 1 (.slice (some ⟨g, 0, none⟩) n c) n xs := by
  rcases h.2 with ⟨e0, _⟩ | ⟨g', cap, cur, hv, hb, hg, hn, hm, hs, ht⟩
  · cases e0
  · obtain ⟨rfl, rfl⟩ : g = g' ∧ c = cap := by simpa using hv
    exact ⟨h.1, .inr ⟨g, c, cur, rfl, hb, (set_other u hne).trans hg, hn, hm, hs, ht⟩⟩
theorem Say.put {w w2 : World} {bx base g cap m : Nat} {v : Value} {xs ys : List ByteArray} (h : Say w bx base v xs) (hm : m = xs.length + ys.length) (ho : w2.ownsRow base 9 1 (.slice (some ⟨g, 0, none⟩) m cap) m (strs xs ++ strs ys))
    (hg : w.grownBy w2 v.ownBlock) (hat : v.ownBlock = some g ∨ g = w.heap.size) : Say (w2.setCell ⟨bx, 0, none⟩ (.slice (some ⟨g, 0, none⟩) m cap)) bx base (.slice (some ⟨g, 0, none⟩) m cap) (xs ++ ys) := by
  subst hm
  have hlt := h.lt
  have hne : g ≠ bx := by
    rcases hat with hat | hat
    · intro e; subst e; exact h.ne hat
    · omega
  have hb2 := grown_blk hg h.ne h.box
  refine ⟨?_, ?_, fun e => hne (by simpa [Value.ownBlock] using e), h.le⟩
  · rw [set_blk _ hb2]
    simp
  · have := own_set_other (j := 0) (.slice (some ⟨g, 0, none⟩) (xs.length + ys.length) cap) hne ho
    rw [List.length_append, strs_app]
    exact this

set_option maxRecDepth 100000 in
set_option maxHeartbeats 1000000 in
theorem say_any {bx base : Nat} {v : Value} {xs : List ByteArray} {word : ByteArray} {n : Nat} {w : World} (hS : Say w bx base v xs) (hn : n < 18446744073709551616) (hl : xs.length ≤ 1000) (hbase : base ≤ w.heap.size) (htab : Pow10 w) :
    Calls Tryd.prog 61 #[.string word, .int .u64 n, .pointer (some ⟨bx, 0, none⟩)] w fun e w' => e = .returned (.tuple #[]) ∧ (∃ v', Say w' bx base v' (xs ++ [word, ⟨(Lib.decDigits n).toArray⟩])) ∧ Below base w w' := by
  obtain ⟨i0, hi, hz0, hz1, hz2⟩ := info_parts str_info
  have HS := Lib.hid hS
  have HT := Lib.hid htab
  have c0 := hS.cell
  clear hS htab
  go_enter Tryd.func61, Tryd.ntmps61
  go_region_law (first
    | (go_simp; go_at_call 62; refine (fmtUint n hn _ (HT.out.below (Below.refl _ _).drew)).mono ?_; rintro e w1 ⟨rfl, hb1⟩; have HB1 := Lib.hid ((Below.refl w.heap.size w).drew.trans hb1); have HS1 := Lib.hid (HS.out.next HB1.out); have hwz := HB1.out.size; clear hb1; have c1 := HS1.out.cell; have c1a := fun o => cell?_alloc_old o HS1.out.cell)
    | (refine step_append_lies _ rfl (.tmp 5) (.tmp 9) 110 rfl base 9 i0 (.string ⟨#[]⟩) 1 16 Tryd.underlying110 hi hz0 hz1 hz2 rfl (by decide) v xs.length (strs xs) (by simp [Act.eval, Act.put]) (HS1.out.next ((Below.refl _ _).alloc (Nat.le_refl _) _)).own _ 2 2 [.string word, .string ⟨(Lib.decDigits n).toArray⟩] (by simp [Act.eval, Act.put]) rfl (World.news_of_block (alloc_at _ _)) (by simp [Value.oneCell']) (by omega) (by unfold maxLen; omega) (by omega) (by simp; omega) _ rfl ?_; intro g cap w2 ho2 hg2 hat2 hlt2; have HSa := (HS1.out.next ((Below.refl _ _).alloc (Nat.le_refl _) (.cells #[.string word, .string ⟨(Lib.decDigits n).toArray⟩] 9))); have hbx := grown_blk hg2 HSa.ne HSa.box; have c2 := cell_blk (j := 0) hbx rfl; have f2 : w2.frozen? ⟨bx, 0, none⟩ = false := free_blk hbx; have HP := Lib.hid (HSa.put (ys := [word, ⟨(Lib.decDigits n).toArray⟩]) rfl ho2 hg2 hat2); have HB2 := Lib.hid ((((HB1.out.mono hbase).alloc (by omega) _).grown hg2 (by simp; omega) (fun k hk => (HSa.own.lt k hk).1)).setCell (p := ⟨bx, 0, none⟩) HSa.le (.slice (some ⟨g, 0, none⟩) (xs.length + 2) cap)); clear HSa hbx ho2 hg2 hat2 hlt2))
  all_goals
    go_end0
    exact ⟨rfl, ⟨_, HP.out⟩, HB2.out⟩
end Go.Proofs.YtfddhipdedcacaaDoor
