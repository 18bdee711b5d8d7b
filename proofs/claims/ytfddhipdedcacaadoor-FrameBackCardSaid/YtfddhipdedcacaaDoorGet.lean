/-
  The reference's Get: the number that the first bytes write.
-/
import Derived.Test.YtfddhipdedcacaaDoorDec
import Derived.Test.YtfddhipdedcacaaDoorBs
namespace Go.Proofs.YtfddhipdedcacaaDoor
open Go.RowKit
set_option linter.unusedVariables false
set_option linter.unusedSimpArgs false

/-- Get: the number that the first n bytes write. -/
def getN (xs : List Int) (n : Nat) : Int := (xs.take n).foldl (fun v x => v * 256 + x) 0

theorem getN_succ (xs : List Int) (k : Nat) (hk : k < xs.length) : getN xs (k + 1) = getN xs k * 256 + xs.getD k 0 := by
  unfold getN
  rw [List.take_succ_eq_append_getElem hk, List.foldl_append]
  simp [List.getD_eq_getElem?_getD, List.getElem?_eq_getElem hk]
theorem getN_le {xs : List Int} (hx : ∀ x ∈ xs, 0 ≤ x ∧ x ≤ 255) : ∀ {k : Nat}, k ≤ 3 → 0 ≤ getN xs k ∧ getN xs k ≤ 16777215 := by
  have h0 : getN xs 0 = 0 := by simp [getN]
  have step : ∀ k, getN xs (k + 1) = getN xs k ∨ ∃ z, (0 ≤ z ∧ z ≤ 255) ∧ getN xs (k + 1) = getN xs k * 256 + z := fun k => by
    by_cases hk : k < xs.length
    · exact .inr ⟨_, byte_at hx rfl, getN_succ xs k hk⟩
    · left; unfold getN; rw [List.take_of_length_le (by omega), List.take_of_length_le (by omega)]
  intro k hk
  have s0 : getN xs 1 = getN xs 0 ∨ ∃ z, (0 ≤ z ∧ z ≤ 255) ∧ getN xs 1 = getN xs 0 * 256 + z := step 0
  have s1 : getN xs 2 = getN xs 1 ∨ ∃ z, (0 ≤ z ∧ z ≤ 255) ∧ getN xs 2 = getN xs 1 * 256 + z := step 1
  have s2 : getN xs 3 = getN xs 2 ∨ ∃ z, (0 ≤ z ∧ z ≤ 255) ∧ getN xs 3 = getN xs 2 * 256 + z := step 2
  rw [h0] at s0
  match k, hk with
  | 0, _ => omega
  | 1, _ => rcases s0 with s0 | ⟨a, ha, s0⟩ <;> omega
  | 2, _ => rcases s0 with s0 | ⟨a, ha, s0⟩ <;> rcases s1 with s1 | ⟨b, hb, s1⟩ <;> omega
  | 3, _ => rcases s0 with s0 | ⟨a, ha, s0⟩ <;> rcases s1 with s1 | ⟨b, hb, s1⟩ <;> rcases s2 with s2 | ⟨c, hc, s2⟩ <;> omega

set_option maxRecDepth 100000 in
theorem rget_any (A : Option Addr) (l c n : Nat) (xs : List Int) (w : World) (hb : Bs w A l c xs) (hn : n ≤ 4) :
    Calls Tryd.prog 54 #[.slice A l c, .int .i64 n] w fun e w' => e = .returned (.tuple #[.int .i64 (if l < n then 0 else getN xs n), .int .i64 (if l < n then 3 else 0)]) ∧ Dr w w' := by
  by_cases hl : l < n
  · rw [if_pos hl, if_pos hl]
    go_enter Tryd.func54, Tryd.ntmps54
    go_wp2_with fail
    go_ret2
    exact ⟨rfl, Dr.refl _⟩
  · rw [if_neg hl, if_neg hl]
    have hln := hb.len
    have hmax := hb.max
    have hcap := hb.cap
    rcases Nat.eq_zero_or_pos l with h0 | h0
    · obtain rfl : n = 0 := by omega
      have hd : decide ((0 : Int) < ((0 : Nat) : Int)) = false := rfl
      go_enter Tryd.func54, Tryd.ntmps54
      go_wp2_with fail
      refine wp_loop_rounds 1 ?_
      rw [rounds_succ]
      go_wp2_with fail
      go_ret2
      exact ⟨rfl, Dr.refl _⟩
    · obtain ⟨b, o, rfl, hc⟩ := hb.rd h0
      have HX := Lib.hid (hb.byt)
      have HC := Lib.hid hc
      clear hb hc h0
      go_enter Tryd.func54, Tryd.ntmps54
      go_wp2_with fail
      go_loopw [6, 7] (fun v i wr => ∃ k : Nat, k ≤ n ∧ i = .int .i64 k ∧ v = .int .i64 (getN xs k) ∧ Hid (Dr w wr)) (fun _ i _ => n - (intOf i).toNat)
      case atStart => exact ⟨0, by omega, rfl, rfl, Dr.refl _⟩
      case round =>
        obtain ⟨k, hk, rfl, rfl, HD⟩ := hrel
        by_cases hlt : k < n
        · have e := (HD.out.cell ⟨b, o + k, none⟩).trans (HC.out k (by omega))
          obtain ⟨z, hz⟩ : ∃ z, z = xs.getD k 0 := ⟨_, rfl⟩
          rw [← hz] at e
          have HZ := Lib.hid hz
          clear hz
          have hkl : (k : Int) < (l : Int) := by omega
          obtain ⟨g0, g1⟩ := getN_le (fun x hx => HX.out x hx) (show k ≤ 3 by omega)
          obtain ⟨z0, z1⟩ := byte_at HX.out HZ.out
          have HS := Lib.hid (getN_succ xs k (by omega))
          go_wp2_with fail
          go_roundw
          case rel => exact ⟨k + 1, by omega, by go_num, by rw [HS.out, ← HZ.out], HD.out⟩
          case measure => simp [intOf]; omega
        · obtain rfl : k = n := by omega
          go_wp2_with fail
          go_ret2
          exact ⟨rfl, HD.out⟩

/-- The reference's Decode of at least twelve bytes: its numbers. -/
theorem getN_2 (xs : List Int) (h : 2 ≤ xs.length) : getN xs 2 = gd xs 0 * 256 + gd xs 1 := by
  have e0 := getN_succ xs 0 (by omega)
  have e1 := getN_succ xs 1 (by omega)
  have h0 : getN xs 0 = 0 := by simp [getN]
  unfold gd
  rw [e1, e0, h0]; omega
theorem getN_4 (xs : List Int) (h : 4 ≤ xs.length) : getN xs 4 = gd xs 0 * 16777216 + gd xs 1 * 65536 + gd xs 2 * 256 + gd xs 3 := by
  have e0 := getN_succ xs 0 (by omega)
  have e1 := getN_succ xs 1 (by omega)
  have e2 := getN_succ xs 2 (by omega)
  have e3 := getN_succ xs 3 (by omega)
  have h0 : getN xs 0 = 0 := by simp [getN]
  unfold gd
  rw [e3, e2, e1, e0, h0]; omega
theorem rget2 {A : Option Addr} {l c : Nat} {xs : List Int} {w : World} (h : Bs w A l c xs) (hl : 2 ≤ l) :
    Calls Tryd.prog 54 #[.slice A l c, .int .i64 2] w fun e w' => e = .returned (.tuple #[.int .i64 (gd xs 0 * 256 + gd xs 1), .int .i64 0]) ∧ Dr w w' := by
  have := rget_any A l c 2 xs w h (by omega)
  rw [if_neg (by omega), if_neg (by omega), getN_2 xs (by rw [h.len]; omega)] at this
  exact this
theorem rget4 {A : Option Addr} {l c : Nat} {xs : List Int} {w : World} (h : Bs w A l c xs) (hl : 4 ≤ l) :
    Calls Tryd.prog 54 #[.slice A l c, .int .i64 4] w fun e w' => e = .returned (.tuple #[.int .i64 (gd xs 0 * 16777216 + gd xs 1 * 65536 + gd xs 2 * 256 + gd xs 3), .int .i64 0]) ∧ Dr w w' := by
  have := rget_any A l c 4 xs w h (by omega)
  rw [if_neg (by omega), if_neg (by omega), getN_4 xs (by rw [h.len]; omega)] at this
  exact this

set_option maxRecDepth 100000 in
set_option maxHeartbeats 1000000 in
theorem rdecode_yes (b o n c : Nat) (xs : List Int) (w : World) (hn : 12 ≤ n) (h : Bs w (some ⟨b, o, none⟩) n c xs) :
    Calls Tryd.prog 26 #[.slice (some ⟨b, o, none⟩) n c] w fun e w' => e = .returned (.tuple #[hdr (gd xs 0) (gd xs 1) (dFl xs) (dSt xs) (dLn xs), .int .i64 0]) ∧ Below w.heap.size w w' := by
  have hcap := h.cap
  have hmax := h.max
  have hlen := h.len
  have HB := Lib.hid h
  clear h
  go_enter Tryd.func26, Tryd.ntmps26
  go_wp2_with fail
  have HB1 := Lib.hid (HB.out.next ((Below.refl _ _).alloc (Nat.le_refl _) (.cells #[.int .u8 0, .int .u8 0, .int .u16 0, .int .u32 0, .int .u32 0] 26)))
  have hx := HB.out.bytes
  obtain ⟨x2, x2'⟩ := hx 2
  obtain ⟨x3, x3'⟩ := hx 3
  obtain ⟨x4, x4'⟩ := hx 4
  obtain ⟨x5, x5'⟩ := hx 5
  obtain ⟨x6, x6'⟩ := hx 6
  obtain ⟨x7, x7'⟩ := hx 7
  obtain ⟨x8, x8'⟩ := hx 8
  obtain ⟨x9, x9'⟩ := hx 9
  obtain ⟨x10, x10'⟩ := hx 10
  obtain ⟨x11, x11'⟩ := hx 11
  clear hx
  refine (rget2 (HB1.out.drop 2 (by omega)) (by omega)).mono ?_
  rintro e w1 ⟨rfl, hd1⟩
  simp only [gd_drop, Nat.reduceAdd]
  have HB2 := Lib.hid (HB1.out.next (hd1.below _))
  have hr1 : w1.heap[w.heap.size]? = some (.cells #[.int .u8 0, .int .u8 0, .int .u16 0, .int .u32 0, .int .u32 0] 26 (0, 0)) := (hd1.blk _).trans (alloc_at _ _)
  have hb1 : Below w.heap.size w w1 := ((Below.refl _ _).alloc (Nat.le_refl _) _).trans (hd1.below _)
  have HR1 := Lib.hid hr1
  have Hb1 := Lib.hid hb1
  clear hd1 hr1 hb1
  go_wp2_with fail
  refine (rget4 (HB2.out.drop 4 (by omega)) (by omega)).mono ?_
  rintro e w2 ⟨rfl, hd2⟩
  simp only [gd_drop, Nat.reduceAdd]
  have HB3 := Lib.hid (HB2.out.next (hd2.below _))
  have HR2 := Lib.hid ((hd2.blk _).trans HR1.out)
  have Hb2 := Lib.hid (Hb1.out.trans (hd2.below _))
  clear hd2
  go_wp2_with fail
  refine (rget4 (HB3.out.drop 8 (by omega)) (by omega)).mono ?_
  rintro e w3 ⟨rfl, hd3⟩
  simp only [gd_drop, Nat.reduceAdd]
  have HB4 := HB3.out.next (hd3.below _)
  have hr3 := (hd3.blk _).trans HR2.out
  have Hb3 := Lib.hid (Hb2.out.trans (hd3.below _))
  obtain ⟨b', o', e', hrd⟩ := HB4.rd (by omega)
  obtain ⟨rfl, rfl⟩ : b = b' ∧ o = o' := by simpa using e'
  have c0 : w3.cell? ⟨b, o, none⟩ = some (.int .u8 (gd xs 0)) := hrd 0 (by omega)
  have c1 : w3.cell? ⟨b, o + 1, none⟩ = some (.int .u8 (gd xs 1)) := hrd 1 (by omega)
  have r0 : w3.cell? ⟨w.heap.size, 0, none⟩ = some (.int .u8 0) := cell_blk hr3 rfl
  have r1 : w3.cell? ⟨w.heap.size, 1, none⟩ = some (.int .u8 0) := cell_blk hr3 rfl
  have r2 : w3.cell? ⟨w.heap.size, 2, none⟩ = some (.int .u16 0) := cell_blk hr3 rfl
  have r3 : w3.cell? ⟨w.heap.size, 3, none⟩ = some (.int .u32 0) := cell_blk hr3 rfl
  have r4 : w3.cell? ⟨w.heap.size, 4, none⟩ = some (.int .u32 0) := cell_blk hr3 rfl
  have f2 : ∀ j, w3.frozen? ⟨w.heap.size, j, none⟩ = false := fun j => free_blk hr3
  have q0 : (0 : Int) < (n : Int) := by omega
  have q1 : (1 : Int) < (n : Int) := by omega
  clear hd3 hr3 HB4 hrd e'
  go_wp2_with fail
  go_region
  all_goals (try go_wp2_with fail)
  all_goals
    refine bodyPost_ret (v := .tuple #[hdr (gd xs 0) (gd xs 1) (dFl xs) (dSt xs) (dLn xs), .int .i64 0]) ?_ rfl ⟨rfl, ?_⟩
    · simp [results, Tryd.results26, go_sem, r0, r1, r2, r3, r4, dFl, dSt, dLn]
    · refine Below.drew ?_
      iterate 5 refine Below.setCell ?_ (by simp) _
      exact Hb3.out

set_option maxRecDepth 100000 in
theorem rdecode_no (A : Option Addr) (n c : Nat) (w : World) (hn : n < 12) :
    Calls Tryd.prog 26 #[.slice A n c] w fun e w' => e = .returned (.tuple #[hdr 0 0 0 0 0, .int .i64 3]) ∧ Below w.heap.size w w' := by
  go_enter Tryd.func26, Tryd.ntmps26
  go_wp2_with fail
  all_goals (try go_region)
  all_goals (try go_wp2_with fail)
  refine bodyPost_ret (v := .tuple #[hdr 0 0 0 0 0, .int .i64 3]) ?_ rfl ⟨rfl, ?_⟩
  · simp [results, Tryd.results26, go_sem]
  · first | exact ((Below.refl _ _).alloc (Nat.le_refl _) _).drew | exact ((Below.refl _ _).alloc (Nat.le_refl _) _)
end Go.Proofs.YtfddhipdedcacaaDoor
