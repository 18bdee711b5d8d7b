/-
  session.Write of the document's five bytes to the first stream.
-/
import Derived.Test.YtnpmafnhbbaokaaGreatDoorSRing
namespace Go.Proofs.YtnpmafnhbbaokaaGreatDoor
open Go Go.RowKit
open Go.ChangeMaps (setBlock)
set_option linter.unusedVariables false
set_option linter.unusedSimpArgs false
/-- The cells of an open stream of this end, in its blocks. -/
def st1 (c : Cf) (s : Nat) : Array Value := stc 1 true false c.frm 1 (s + 1) false false (s - 2) (s + 2) false false (s - 1) false false
theorem bars_nil {w : World} {c : Cf} {s t : Nat} (hs : w.heap[t]? = some (.cells (st1 c s) 126 (0, 0))) :
    Calls Tryz.prog 59 #[pt t] w fun e w' => e = .returned .nilIface ∧ w' = w := by
  have c13 : w.cell? ⟨t, 13, none⟩ = some (.bool false) := cell_blk hs rfl
  have c14 : w.cell? ⟨t, 14, none⟩ = some (.bool false) := cell_blk hs rfl
  clear hs
  go_enter Tryz.func59, Tryz.ntmps59
  unfold pt
  go_wp2_with fail
  go_ret
  exact ⟨rfl, rfl⟩
theorem have_any {w : World} {q : Nat} {a b d : Value} (hq : w.heap[q]? = some (.cells #[a, b, d] 190 (0, 0))) :
    Calls Tryz.prog 50 #[pt q] w fun e w' => e = .returned b ∧ w' = w := by
  have c1 : w.cell? ⟨q, 1, none⟩ = some b := cell_blk hq rfl
  clear hq
  go_enter Tryz.func50, Tryz.ntmps50
  unfold pt
  go_wp2_with fail
  go_ret
  exact ⟨rfl, rfl⟩
/-- Ready: bytes are staged; is there credit? -/
theorem ready_any {w : World} {c : Cf} {s : Nat} {hv k n : Int} {d v h : Value} (hs : w.heap[s]? = some (.cells (st1 c s) 126 (0, 0))) (hq : w.heap[s + 1]? = some (.cells #[.int .i64 k, v, h, .int .i64 n] 188 (0, 0))) (hd : w.heap[s - 2]? = some (.cells #[.int .u32 c.win, .int .u32 hv, d] 190 (0, 0))) (h1 : 1 ≤ n) :
    Calls Tryz.prog 62 #[pt s] w fun e w' => e = .returned (.bool (decide (0 < hv))) ∧ w' = w := by
  have c1 : w.cell? ⟨s, 1, none⟩ = some (.bool true) := cell_blk hs rfl
  have c5 : w.cell? ⟨s, 5, none⟩ = some (pt (s + 1)) := cell_blk hs rfl
  have c7 : w.cell? ⟨s, 7, none⟩ = some (.bool false) := cell_blk hs rfl
  have c8 : w.cell? ⟨s, 8, none⟩ = some (pt (s - 2)) := cell_blk hs rfl
  have HB := Lib.hid (bars_nil hs)
  have HL := Lib.hid (rlen_any hq)
  have HV := Lib.hid (have_any hd)
  have hn : (n == 0) = false := by simp; omega
  clear hs hq hd
  unfold pt at c5 c8
  go_enter Tryz.func62, Tryz.ntmps62
  unfold pt
  go_wp2_with fail
  refine HB.out.mono ?_
  rintro e w ⟨rfl, rfl⟩
  go_wp2_with fail
  refine HL.out.mono ?_
  rintro e w ⟨rfl, rfl⟩
  go_wp2_with fail
  refine HV.out.mono ?_
  rintro e w ⟨rfl, rfl⟩
  go_wp2_with fail
  go_ret
  exact ⟨rfl, rfl⟩
theorem swrite_5 {w : World} {c : Cf} {s p : Nat} {fz : Nat × Nat} (hs : w.heap[s]? = some (.cells (st1 c s) 126 (0, 0))) (hq : w.heap[s + 1]? = some (.cells #[.int .i64 8, .slice none 0 0, .int .i64 0, .int .i64 0] 188 (0, 0))) (hp : w.heap[p]? = some (.cells abcde 5 fz)) (hpq : p ≠ s + 1) :
    Calls Tryz.prog 31 #[pt s, .slice (some ⟨p, 0, none⟩) 5 5] w fun e w' => e = .returned (.tuple #[.int .i64 5, .nilIface]) ∧ Ch [s + 1] w w' ∧ ∃ b, w.heap.size ≤ b ∧ w'.heap[s + 1]? = some (.cells #[.int .i64 8, .slice (some ⟨b, 0, none⟩) 8 8, .int .i64 0, .int .i64 5] 188 (0, 0)) ∧ w'.heap[b]? = some (.cells ab8 5 (0, 0)) := by
  have c5 : w.cell? ⟨s, 5, none⟩ = some (pt (s + 1)) := cell_blk hs rfl
  have c6 : w.cell? ⟨s, 6, none⟩ = some (.bool false) := cell_blk hs rfl
  have HB := Lib.hid (bars_nil hs)
  have HP := Lib.hid (push_5 hq hp hpq)
  clear hs hq hp
  unfold pt at c5
  go_enter Tryz.func31, Tryz.ntmps31
  unfold pt
  go_wp2_with fail
  refine HB.out.mono ?_
  rintro e w ⟨rfl, rfl⟩
  go_wp2_with fail
  refine HP.out.mono ?_
  rintro e w1 ⟨rfl, hk⟩
  have K := Lib.hid hk
  clear hk
  go_wp2_with fail
  go_ret2
  exact ⟨rfl, K.out⟩
theorem tget_1 {w : World} {gt gm cl bn : Nat} {m : Int} {x : Value} (ht : w.heap[gt]? = some (.cells #[.int .i64 m, .map (some gm)] 120 (0, 0))) (hm : w.heap[gm]? = some (.map #[⟨.int .u32 1, x, bn⟩] cl)) :
    Calls Tryz.prog 58 #[pt gt, .int .u32 1] w fun e w' => e = .returned (.tuple #[x, .bool true]) ∧ w' = w := by
  have c1 : w.cell? ⟨gt, 1, none⟩ = some (.map (some gm)) := cell_blk ht rfl
  have hl := look_some (W := w) (t := 49) true Tryz.underlying49 hm (key_one _ _ 1) (find_one _ _ _)
  clear ht hm
  go_enter Tryz.func58, Tryz.ntmps58
  unfold pt
  go_wp2_with fail
  go_ret2
  exact ⟨rfl, rfl⟩
theorem has_0 {w : World} {gr m cl : Nat} {o : Value} (hr : w.heap[gr]? = some (.cells #[o, .map (some m)] 223 (0, 0))) (hm : w.heap[m]? = some (.map #[] cl)) :
    Calls Tryz.prog 95 #[pt gr, .int .u32 1] w fun e w' => e = .returned (.bool false) ∧ w' = w := by
  have c1 : w.cell? ⟨gr, 1, none⟩ = some (.map (some m)) := cell_blk hr rfl
  have hl := look_none (W := w) (t := 156) (z := .int .i64 0) true Tryz.underlying156 hm (by kernel_rfl) (key_one _ _ 1) (find_e _ _ _ ⟨_, Tryz.underlying35⟩)
  clear hr hm
  go_enter Tryz.func95, Tryz.ntmps95
  unfold pt
  go_wp2_with fail
  go_ret
  exact ⟨rfl, rfl⟩
theorem has_1 {w : World} {gr m cl bn : Nat} {o x : Value} (hr : w.heap[gr]? = some (.cells #[o, .map (some m)] 223 (0, 0))) (hm : w.heap[m]? = some (.map #[⟨.int .u32 1, x, bn⟩] cl)) :
    Calls Tryz.prog 95 #[pt gr, .int .u32 1] w fun e w' => e = .returned (.bool true) ∧ w' = w := by
  have c1 : w.cell? ⟨gr, 1, none⟩ = some (.map (some m)) := cell_blk hr rfl
  have hl := look_some (W := w) (t := 156) true Tryz.underlying156 hm (key_one _ _ 1) (find_one _ _ _)
  clear hr hm
  go_enter Tryz.func95, Tryz.ntmps95
  unfold pt
  go_wp2_with fail
  go_ret
  exact ⟨rfl, rfl⟩
set_option maxHeartbeats 1000000 in
theorem add_1 {w : World} {gr m cl : Nat} (hr : w.heap[gr]? = some (.cells #[.slice none 0 0, .map (some m)] 223 (0, 0))) (hm : w.heap[m]? = some (.map #[] cl)) (hne : gr ≠ m) :
    Calls Tryz.prog 88 #[pt gr, .int .u32 1] w fun e w' => e = .returned (.bool true) ∧ Ch [gr, m] w w' ∧ ∃ r cap cur, w.heap.size ≤ r ∧ 1 ≤ cap ∧ cap ≤ maxLen ∧ cur.size = cap ∧ w'.heap[r]? = some (.cells cur 35 (0, 0)) ∧ cur[0]? = some (.int .u32 1) ∧
      w'.heap[gr]? = some (.cells #[.slice (some ⟨r, 0, none⟩) 1 cap, .map (some m)] 223 (0, 0)) ∧ w'.heap[m]? = some (.map #[⟨.int .u32 1, .int .i64 1, cl⟩] (cl + 1)) := by
  have c0 : w.cell? ⟨gr, 0, none⟩ = some (.slice none 0 0) := cell_blk hr rfl
  have c1 : w.cell? ⟨gr, 1, none⟩ = some (.map (some m)) := cell_blk hr rfl
  have hlt : gr < w.heap.size := blk_lt hr
  have hmt : m < w.heap.size := blk_lt hm
  have HH := Lib.hid (has_0 hr hm)
  have HR := Lib.hid hr
  have HM := Lib.hid hm
  clear hr hm
  go_enter Tryz.func88, Tryz.ntmps88
  unfold pt
  go_wp2_with fail
  refine HH.out.mono ?_
  rintro e w ⟨rfl, rfl⟩
  go_wp2_with (at_builtin; go_loud (refine app_nil rfl _ _ 116 35 (.int .u32 0) 4 rfl Tryz.underlying116 u32_info rfl (by decide) (.int .u32 1) rfl rfl rfl ?_; intro r cap cur w1 hr1 hq1 hx1 hc1 hm1 hs1 hch1; have hg1 := hch1.at_ HR.out (by simp); have hmm1 := hch1.at_ HM.out (by simp); have c0' : w1.cell? ⟨gr, 0, none⟩ = some (.slice none 0 0) := cell_blk hg1 rfl; have c1' : w1.cell? ⟨gr, 1, none⟩ = some (.map (some m)) := cell_blk hg1 rfl; have hf' : ∀ j, w1.frozen? ⟨gr, j, none⟩ = false := fun j => free_blk hg1; have hst := store_new (W := w1.setCell ⟨gr, 0, none⟩ (.slice (some ⟨r, 0, none⟩) 1 cap)) (x := .int .i64 1) Tryz.underlying156 (setO _ hmm1 (Ne.symm hne)) (key_one _ _ 1) (find_e _ _ _ ⟨_, Tryz.underlying35⟩); have K1 := Lib.hid (And.intro hr1 (And.intro hq1 (And.intro hx1 (And.intro hc1 (And.intro hm1 (And.intro hs1 (And.intro hch1 (And.intro hg1 hmm1)))))))); clear hr1 hq1 hx1 hc1 hm1 hs1 hch1 hg1 hmm1 c0 c1))
  go_ret
  obtain ⟨hr1, hq1, hx1, hc1, hm1, hs1, hch1, hg1, hmm1⟩ := K1.out
  have h2 : Ch [gr] w1 (w1.setCell ⟨gr, 0, none⟩ (.slice (some ⟨r, 0, none⟩) 1 cap)) := (Ch.refl _ _).set (.inl (by simp)) _
  have hmm2 := setO (c := gr) (i := 0) (.slice (some ⟨r, 0, none⟩) 1 cap) hmm1 (Ne.symm hne)
  have h3 : Ch [m] (w1.setCell ⟨gr, 0, none⟩ (.slice (some ⟨r, 0, none⟩) 1 cap)) (setBlock (w1.setCell ⟨gr, 0, none⟩ (.slice (some ⟨r, 0, none⟩) 1 cap)) m (.map #[⟨.int .u32 1, .int .i64 1, cl⟩] (cl + 1))) := Ch.block_ (Ch.refl _ _) hmm2 (.inl (by simp)) _
  refine ⟨rfl, ?_, r, cap, cur, by omega, hc1, hm1, hs1, ?_, hx1, ?_, ?_⟩
  · exact (((Ch.refl [gr, m] w).trans hch1 (by simp)).trans h2 (by simp)).trans h3 (by simp)
  · exact h3.at_ (setO _ hq1 (by omega)) (by simp; omega)
  · exact h3.at_ (set_is hg1 rfl) (by simp; omega)
  · exact ChangeMaps.heap_setBlock_same hmm2 _
end Go.Proofs.YtnpmafnhbbaokaaGreatDoor
