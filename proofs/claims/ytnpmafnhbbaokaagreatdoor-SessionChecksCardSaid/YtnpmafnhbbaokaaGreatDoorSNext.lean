/-
  sched.Next: the first ticket's frame.
-/
import Derived.Test.YtnpmafnhbbaokaaGreatDoorSOut
namespace Go.Proofs.YtnpmafnhbbaokaaGreatDoor
open Go Go.RowKit
open Go.ChangeMaps (setBlock)
set_option linter.unusedVariables false
set_option linter.unusedSimpArgs false
def fr0 : Array Value := #[.int .u8 0, .int .u8 0, .int .u16 0, .int .u32 0, .int .u32 0, .slice none 0 0]
def fr6 (ty fl st ln : Int) (d : Value) : Array Value := #[.int .u8 0, .int .u8 ty, .int .u16 fl, .int .u32 st, .int .u32 ln, d]
set_option maxRecDepth 100000 in
set_option maxHeartbeats 2000000 in
theorem snext_t {w : World} {gs gl gr ge m cl r cap : Nat} {cur : Array Value} {x : Value} (hE : ∀ W, Ch [gl, ge, m] w W → Frm W) (hs : w.heap[gs]? = some (.cells #[pt gl, pt gr] 142 (0, 0))) (hl : w.heap[gl]? = some (.cells (laneC (.slice (some ⟨r, 0, none⟩) 1 cap) m 1) 204 (0, 0))) (he : w.heap[ge]? = some (.cells (syn1 false) 209 (0, 0))) (hm : w.heap[m]? = some (.map #[⟨kp, pt ge, 0⟩] cl))
    (hr : w.heap[r]? = some (.cells cur 199 (0, 0))) (hx : cur[0]? = some (pt ge)) (hc1 : 1 ≤ cap) (hc2 : cap ≤ maxLen) :
    Calls Tryz.prog 36 #[pt gs, x] w fun e w' => e = .returned (.tuple #[hdA 1 1 1 0 (.slice none 0 0), .bool true]) ∧ Ch [gl, ge, m] w w' ∧ ∃ A c, w'.heap[gl]? = some (.cells (laneC (.slice A 0 c) m 0) 204 (0, 0)) ∧ w'.heap[m]? = some (.map #[] cl) := by
  obtain ⟨w0, hw0⟩ : ∃ w0, w0 = w.alloc (.cells fr0 89) := ⟨_, rfl⟩
  have hb0 : Below w.heap.size w w0 := by rw [hw0]; exact (Below.refl _ _).alloc (Nat.le_refl _) _
  have f0 : w0.heap[w.heap.size]? = some (.cells fr0 89 (0, 0)) := by rw [hw0]; exact alloc_is _ rfl
  have s0 := keepB hb0 hs
  have ns1 : gs ≠ gl := type_ne hs hl (by decide)
  have ns2 : gs ≠ ge := type_ne hs he (by decide)
  have ns3 : gs ≠ m := map_ne hs hm
  have zl := blk_lt hl
  have ze := blk_lt he
  have zm := blk_lt hm
  have c0 : w.cell? ⟨gs, 0, none⟩ = some (.pointer (some ⟨gl, 0, none⟩)) := cell_blk hs rfl
  have zs : gs < w.heap.size := blk_lt hs
  have HL := Lib.hid (lnext_1 (keepB hb0 hl) (keepB hb0 he) (keepB hb0 hm) (keepB hb0 hr) hx hc1 hc2)
  have HB0 := Lib.hid hb0
  have HW := Lib.hid hw0
  have F0 := Lib.hid f0
  have HE := Lib.hid hE
  have ZL := Lib.hid (And.intro zl (And.intro ze zm))
  clear hs hl he hm hr hx hc1 hc2 hb0 f0 s0 hw0 hE zl ze zm ns1 ns2 ns3
  unfold fr0 at HW
  go_enter Tryz.func36, Tryz.ntmps36
  unfold pt
  go_wp2_with fail
  rw [← HW.out]
  refine HL.out.mono ?_
  rintro e w1 ⟨rfl, hc1, A, c, hl1, hm1⟩
  obtain ⟨zl, ze, zm⟩ := ZL.out
  have f1 := hc1.at_ F0.out (by simp; omega)
  have hw1 : Ch [gl, ge, m] w w1 := (Ch.of_below HB0.out).trans hc1 (fun j hj => .inl hj)
  have zz : w.heap.size < w1.heap.size := blk_lt f1
  have K1 := Lib.hid (And.intro hw1 (And.intro hl1 (And.intro hm1 f1)))
  clear hc1 hl1 hm1 f1 hw1 c0 zs zl ze zm
  unfold tk
  go_wp2_with fail
  obtain ⟨w2, hw2⟩ : ∃ w2, w2 = w1.alloc (.cells #[.int .i64 1, .int .u32 1, .int .u32 0] 79) := ⟨_, rfl⟩
  rw [← hw2]
  obtain ⟨hw1, hl1, hm1, f1⟩ := K1.out
  have hb2 : Below w1.heap.size w1 w2 := by rw [hw2]; exact (Below.refl _ _).alloc (Nat.le_refl _) _
  have HG := Lib.hid (lframe_1 (HE.out w2 (hw1.trans (Ch.of_below (L := []) hb2) (by simp))))
  have HB2 := Lib.hid hb2
  clear hw1 hl1 hm1 f1 hb2 hw2
  unfold tk at HG
  refine HG.out.mono ?_
  rintro e w3 ⟨rfl, hb3⟩
  have HB3 := Lib.hid (belowT HB2.out hb3)
  clear hb3
  unfold hdA
  go_wp2_with fail
  obtain ⟨w4, hw4⟩ : ∃ w4, w4 = w3.alloc (.cells #[.int .u8 0, .int .u8 1, .int .u16 1, .int .u32 1, .int .u32 0, .slice none 0 0] 89) := ⟨_, rfl⟩
  rw [← hw4]
  obtain ⟨hw1, hl1, hm1, f1⟩ := K1.out
  have hb4 : Below w3.heap.size w3 w4 := by rw [hw4]; exact (Below.refl _ _).alloc (Nat.le_refl _) _
  have hb14 := belowT HB3.out hb4
  have g4 : w4.heap[w3.heap.size]? = some (.cells (fr6 1 1 1 0 (.slice none 0 0)) 89 (0, 0)) := by rw [hw4]; exact alloc_is _ rfl
  have f4 := keepB hb14 f1
  have hne : w.heap.size ≠ w3.heap.size := by have := HB3.out.size; omega
  have HB14 := Lib.hid hb14
  have a0 : w4.cell? ⟨w.heap.size, 0, none⟩ = some (.int .u8 0) := cell_blk f4 rfl
  have a1 : w4.cell? ⟨w.heap.size, 1, none⟩ = some (.int .u8 0) := cell_blk f4 rfl
  have a2 : w4.cell? ⟨w.heap.size, 2, none⟩ = some (.int .u16 0) := cell_blk f4 rfl
  have a3 : w4.cell? ⟨w.heap.size, 3, none⟩ = some (.int .u32 0) := cell_blk f4 rfl
  have a4 : w4.cell? ⟨w.heap.size, 4, none⟩ = some (.int .u32 0) := cell_blk f4 rfl
  have a5 : w4.cell? ⟨w.heap.size, 5, none⟩ = some (.slice none 0 0) := cell_blk f4 rfl
  have af : ∀ j, w4.frozen? ⟨w.heap.size, j, none⟩ = false := fun j => free_blk f4
  have b0 : w4.cell? ⟨w3.heap.size, 0, none⟩ = some (.int .u8 0) := cell_blk g4 rfl
  have b1 : w4.cell? ⟨w3.heap.size, 1, none⟩ = some (.int .u8 1) := cell_blk g4 rfl
  have b2 : w4.cell? ⟨w3.heap.size, 2, none⟩ = some (.int .u16 1) := cell_blk g4 rfl
  have b3 : w4.cell? ⟨w3.heap.size, 3, none⟩ = some (.int .u32 1) := cell_blk g4 rfl
  have b4 : w4.cell? ⟨w3.heap.size, 4, none⟩ = some (.int .u32 0) := cell_blk g4 rfl
  have b5 : w4.cell? ⟨w3.heap.size, 5, none⟩ = some (.slice none 0 0) := cell_blk g4 rfl
  clear hw1 hl1 hm1 f1 hb4 hb14 g4 f4 zz HL HW F0 HG hw4
  have HNE := Lib.hid hne
  clear hne
  obtain ⟨fb, hfb⟩ : ∃ fb, fb = w.heap.size := ⟨_, rfl⟩
  obtain ⟨tb, htb⟩ : ∃ tb, tb = w3.heap.size := ⟨_, rfl⟩
  obtain ⟨ub, hub⟩ : ∃ ub, ub = w1.heap.size := ⟨_, rfl⟩
  rw [← hfb] at a0 a1 a2 a3 a4 a5 af ⊢
  rw [← htb] at b0 b1 b2 b3 b4 b5 ⊢
  rw [← hub]
  have hne' : fb ≠ tb := by rw [hfb, htb]; exact HNE.out
  have HFB := Lib.hid hfb
  clear hfb htb hub
  go_region
  go_wp2_with fail
  obtain ⟨hw1, hl1, hm1, f1⟩ := K1.out
  have hfb := HFB.out
  obtain ⟨zl, ze, zm⟩ := ZL.out
  have hq : Ch [fb] w4 ((((((w4.setCell ⟨fb, 0, none⟩ (.int .u8 0)).setCell ⟨fb, 1, none⟩ (.int .u8 1)).setCell ⟨fb, 2, none⟩ (.int .u16 1)).setCell ⟨fb, 3, none⟩ (.int .u32 1)).setCell ⟨fb, 4, none⟩ (.int .u32 0)).setCell ⟨fb, 5, none⟩ (.slice none 0 0)).drew := ((((((((Ch.refl _ _).set (.inl (by simp)) _).set (.inl (by simp)) _).set (.inl (by simp)) _).set (.inl (by simp)) _).set (.inl (by simp)) _).set (.inl (by simp)) _).drew)
  refine bodyPost_ret (v := .tuple #[.agg #[.int .u8 0, .int .u8 1, .int .u16 1, .int .u32 1, .int .u32 0, .slice none 0 0], .bool true]) ?_ rfl ⟨rfl, ?_, A, c, ?_, ?_⟩
  · simp [results, Tryz.results36, go_sem, a0, a1, a2, a3, a4, a5]
  · exact (hw1.trans (Ch.of_below (L := []) HB14.out) (by simp)).trans hq (by simp; omega)
  · exact hq.at_ (keepB HB14.out hl1) (by simp; omega)
  · exact hq.at_ (keepB HB14.out hm1) (by simp; omega)
end Go.Proofs.YtnpmafnhbbaokaaGreatDoor
