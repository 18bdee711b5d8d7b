/-
  frame.Text: the header in words.
-/
import Derived.Test.YtfddhipdedcacaaDoorSay
import Derived.Deep.DeepCutAuto
import Derived.Deep.LoopGhost
import Derived.Lib.ItoaLen
namespace Go.Proofs.YtfddhipdedcacaaDoor
open Go.RowKit
set_option linter.unusedVariables false
set_option linter.unusedSimpArgs false

def dec (n : Nat) : ByteArray := ⟨(Lib.decDigits n).toArray⟩
def tyW : Nat → ByteArray
  | 0 => ⟨#[100, 97, 116, 97]⟩
  | 1 => ⟨#[119, 105, 110, 100, 111, 119]⟩
  | 2 => ⟨#[112, 105, 110, 103]⟩
  | _ => ⟨#[97, 119, 97, 121]⟩
def kindW (ty : Nat) : List ByteArray := if ty < 4 then [tyW ty] else [⟨#[116, 121, 112, 101]⟩, dec ty]
def verW (ver : Nat) : List ByteArray := if ver = 0 then [] else [⟨#[118, 101, 114, 115, 105, 111, 110]⟩, dec ver]
def flW : Nat → ByteArray
  | 0 => ⟨#[115, 121, 110]⟩
  | 1 => ⟨#[97, 99, 107]⟩
  | 2 => ⟨#[102, 105, 110]⟩
  | _ => ⟨#[114, 115, 116]⟩
def flagW (fl : Nat) : Nat → List ByteArray
  | 0 => []
  | k + 1 => flagW fl k ++ if fl / 2 ^ k % 2 = 1 then [flW k] else []
theorem flagW_len (fl : Nat) : ∀ k, (flagW fl k).length ≤ k
  | 0 => by simp [flagW]
  | k + 1 => by have := flagW_len fl k; simp only [flagW, List.length_append]; split <;> simp <;> omega
def restW (fl : Nat) : List ByteArray := if fl / 16 = 0 then [] else [⟨#[102, 108, 97, 103, 115]⟩, dec (fl / 16 * 16)]
def clr (fl k : Nat) : Int := ((fl / 2 ^ k * 2 ^ k : Nat) : Int)
/-- The words of a header's text. -/
def allW (ver ty fl st ln : Nat) : List ByteArray := kindW ty ++ verW ver ++ flagW fl 4 ++ restW fl ++ [⟨#[115, 116, 114, 101, 97, 109]⟩, dec st] ++ [⟨#[108, 101, 110, 103, 116, 104]⟩, dec ln]
def textB (ver ty fl st ln : Nat) : List UInt8 := Lib.join ((allW ver ty fl st ln).map (·.data.toList)) [32]
def Sml (b : ByteArray) : Prop := b.data.toList.length ≤ 20
theorem dec_sml (n : Nat) (h : n < 18446744073709551616) : Sml (dec n) := by
  unfold Sml dec
  simp only [Lib.decDigits_length]
  exact Lib.nDigits_le20 n h
theorem tyW_sml (n : Nat) : Sml (tyW n) := by unfold Sml tyW; split <;> decide
theorem flW_sml (n : Nat) : Sml (flW n) := by unfold Sml flW; split <;> decide
theorem flagW_sml (fl : Nat) : ∀ k, ∀ x ∈ flagW fl k, Sml x
  | 0 => by simp [flagW]
  | k + 1 => by
    intro x hx
    rw [flagW, List.mem_append] at hx
    rcases hx with hx | hx
    · exact flagW_sml fl k x hx
    · split at hx
      · simp at hx; subst hx; exact flW_sml k
      · simp at hx
theorem allW_sml (ver ty fl st ln : Nat) (hver : ver ≤ 255) (hty : ty ≤ 255) (hfl : fl ≤ 65535) (hst : st ≤ 4294967295) (hln : ln ≤ 4294967295) : ∀ x ∈ allW ver ty fl st ln, Sml x := by
  intro x hx
  simp only [allW, List.mem_append] at hx
  rcases hx with ((((hx | hx) | hx) | hx) | hx) | hx
  · unfold kindW at hx
    split at hx
    · simp at hx; subst hx; exact tyW_sml ty
    · simp at hx; rcases hx with rfl | rfl
      · unfold Sml; decide
      · exact dec_sml _ (by omega)
  · unfold verW at hx
    split at hx
    · simp at hx
    · simp at hx; rcases hx with rfl | rfl
      · unfold Sml; decide
      · exact dec_sml _ (by omega)
  · exact flagW_sml fl 4 x hx
  · unfold restW at hx
    split at hx
    · simp at hx
    · simp at hx; rcases hx with rfl | rfl
      · unfold Sml; decide
      · exact dec_sml _ (by omega)
  · simp at hx; rcases hx with rfl | rfl
    · unfold Sml; decide
    · exact dec_sml _ (by omega)
  · simp at hx; rcases hx with rfl | rfl
    · unfold Sml; decide
    · exact dec_sml _ (by omega)
theorem allW_len (ver ty fl st ln : Nat) : (allW ver ty fl st ln).length ≤ 20 := by
  have := flagW_len fl 4
  unfold allW kindW verW restW
  simp only [List.length_append]
  split <;> split <;> split <;> simp <;> omega
theorem lens_sml : ∀ {xs : List ByteArray}, (∀ x ∈ xs, Sml x) → Lib.lens (xs.map (·.data.toList)) ≤ 20 * xs.length
  | [], _ => by simp [Lib.lens]
  | x :: xs, h => by
    have h1 : x.data.toList.length ≤ 20 := h x (by simp)
    have h2 := lens_sml (xs := xs) fun y hy => h y (by simp [hy])
    have e : Lib.lens ((x :: xs).map (·.data.toList)) = x.data.toList.length + Lib.lens (xs.map (·.data.toList)) := by simp [Lib.lens]
    rw [e, List.length_cons]
    omega
theorem join_sml {xs : List ByteArray} (h : ∀ x ∈ xs, Sml x) (hl : xs.length ≤ 20) : (Lib.join (xs.map (·.data.toList)) [32]).length ≤ 420 := by
  cases xs with
  | nil => simp [Lib.join]
  | cons x xs =>
    have h2 := lens_sml h
    rw [List.map_cons, Lib.join_length]
    simp only [List.map_cons, List.length_cons, List.length_map] at h2 hl ⊢
    simp
    omega
theorem text_len (ver ty fl st ln : Nat) (hver : ver ≤ 255) (hty : ty ≤ 255) (hfl : fl ≤ 65535) (hst : st ≤ 4294967295) (hln : ln ≤ 4294967295) : (textB ver ty fl st ln).length ≤ 420 :=
  join_sml (allW_sml ver ty fl st ln hver hty hfl hst hln) (allW_len ..)
/-- frame.words. -/
def Words (w : World) : Prop := ∀ k, k < 4 → w.cell? ⟨9, k, none⟩ = some (.string (tyW k))
theorem Words.below {w w' : World} (h : Words w) (hb : Below w.heap.size w w') : Words w' := fun k hk => (hb.cell (World.block_lt_of_cell? w _ (h k hk))).trans (h k hk)

theorem and_pow (x k : Nat) : x &&& 2 ^ k = (x / 2 ^ k % 2) * 2 ^ k := by
  apply Nat.eq_of_testBit_eq
  intro i
  rw [Nat.testBit_and, Nat.testBit_two_pow]
  have h2 : x / 2 ^ k % 2 < 2 := Nat.mod_lt _ (by omega)
  by_cases hi : k = i
  · subst hi
    have e : x.testBit k = decide (x / 2 ^ k % 2 = 1) := by rw [Nat.testBit_eq_decide_div_mod_eq]
    rw [e, Nat.mul_comm, Nat.testBit_two_pow_mul]
    rcases (by omega : x / 2 ^ k % 2 = 0 ∨ x / 2 ^ k % 2 = 1) with h | h <;> simp [h]
  · have : (decide (k = i)) = false := by simp [hi]
    rw [this, Bool.and_false, Nat.mul_comm, Nat.testBit_two_pow_mul]
    symm
    rcases (by omega : x / 2 ^ k % 2 = 0 ∨ x / 2 ^ k % 2 = 1) with h | h
    · simp [h]
    · rw [h]
      by_cases hle : k ≤ i
      · have : i - k ≠ 0 := by omega
        simp [hle]
        rw [show (1 : Nat) = 2 ^ 0 from rfl, Nat.testBit_two_pow]
        simp; omega
      · simp [hle]
theorem clr_and (fl k : Nat) (hfl : fl ≤ 65535) (hk : k < 4) : bits .and .u16 (clr fl k) ((2 ^ k : Nat) : Int) = (((fl / 2 ^ k % 2) * 2 ^ k : Nat) : Int) := by
  unfold clr
  have h1 : fl / 2 ^ k * 2 ^ k ≤ fl := Nat.div_mul_le_self _ _
  have h2 : 2 ^ k < 65536 := by
    have : 2 ^ k ≤ 2 ^ 4 := Nat.pow_le_pow_right (by omega) (by omega)
    omega
  rw [u16_and_nat _ _ (by omega) h2, and_pow, Nat.mul_div_cancel _ (Nat.pow_pos (by omega))]
theorem clr_andNot (fl k : Nat) (hfl : fl ≤ 65535) (hk : k < 4) : bits .andNot .u16 (clr fl k) ((2 ^ k : Nat) : Int) = clr fl (k + 1) := by
  unfold clr
  have h1 : fl / 2 ^ k * 2 ^ k ≤ fl := Nat.div_mul_le_self _ _
  have h2 : 2 ^ k < 65536 := by
    have : 2 ^ k ≤ 2 ^ 4 := Nat.pow_le_pow_right (by omega) (by omega)
    omega
  rw [u16_andNot_nat _ _ (by omega) h2]
  have e : (fl / 2 ^ k * 2 ^ k) &&& (65535 - 2 ^ k) = fl / 2 ^ (k + 1) * 2 ^ (k + 1) := by
    apply Nat.eq_of_testBit_eq
    intro i
    rw [show 65535 - 2 ^ k = 2 ^ 16 - (2 ^ k + 1) by omega, Nat.testBit_and, Nat.testBit_two_pow_sub_succ (by omega), Nat.mul_comm, Nat.testBit_two_pow_mul, Nat.mul_comm, Nat.testBit_two_pow_mul, Nat.testBit_div_two_pow, Nat.testBit_div_two_pow, Nat.testBit_two_pow]
    rcases Nat.lt_trichotomy i k with h | h | h
    · have a1 : ¬ k ≤ i := by omega
      have a2 : ¬ k + 1 ≤ i := by omega
      simp [a1, a2]
    · subst h
      have a2 : ¬ i + 1 ≤ i := by omega
      simp [a2]
    · have a1 : k ≤ i := by omega
      have a2 : k + 1 ≤ i := by omega
      have a3 : ¬ k = i := by omega
      have a4 : k + (i - k) = i := by omega
      have a5 : k + 1 + (i - (k + 1)) = i := by omega
      have a6 : i - k + k = i := by omega
      have a7 : i - (k + 1) + (k + 1) = i := by omega
      by_cases h16 : i < 16
      · simp [a1, a2, a3, a4, a5, a6, a7, h16]
      · have a8 : fl.testBit i = false := Nat.testBit_lt_two_pow (Nat.lt_of_lt_of_le (show fl < 2 ^ 16 by omega) (Nat.pow_le_pow_right (by omega) (by omega)))
        simp [a1, a2, a3, a4, a5, a6, a7, a8]
  rw [e]
theorem clr_same (fl k : Nat) (h : ¬ fl / 2 ^ k % 2 = 1) : clr fl (k + 1) = clr fl k := by
  unfold clr
  have e : fl / 2 ^ (k + 1) = fl / 2 ^ k / 2 := by rw [Nat.pow_succ, Nat.div_div_eq_div_mul]
  have : fl / 2 ^ k = 2 * (fl / 2 ^ k / 2) := by omega
  rw [e, Nat.pow_succ]
  congr 1
  conv => rhs; rw [this]
  rw [Nat.mul_comm 2, Nat.mul_assoc, Nat.mul_comm 2]

set_option maxRecDepth 100000 in
set_option maxHeartbeats 1000000 in
theorem text_any (ver ty fl st ln : Nat) (w : World) (hver : ver ≤ 255) (hty : ty ≤ 255) (hfl : fl ≤ 65535) (hst : st ≤ 4294967295) (hln : ln ≤ 4294967295) (htab : Pow10 w) (hw : Words w) :
    Calls Tryd.prog 45 #[hdr ver ty fl st ln] w fun e w' => e = .returned (.string ⟨(textB ver ty fl st ln).toArray⟩) ∧ Below w.heap.size w w' := by
  have HT := Lib.hid htab
  have HW := Lib.hid hw
  clear htab hw
  obtain ⟨i0, hi, hz0, hz1, hz2⟩ := info_parts str_info
  obtain ⟨w0, hw0⟩ : ∃ w0, w0 = (w.alloc (.cells #[.int .u8 ver, .int .u8 ty, .int .u16 fl, .int .u32 st, .int .u32 ln] 26)).alloc (.cells #[.slice none 0 0] 110) := ⟨_, rfl⟩
  have hsz : w0.heap.size = w.heap.size + 2 := by rw [hw0]; simp
  have hb0 : Below w.heap.size w w0 := by rw [hw0]; exact ((Below.refl _ _).alloc (Nat.le_refl _) _).alloc (by simp) _
  have hS0 : Say w0 (w.heap.size + 1) (w.heap.size + 1) (.slice none 0 0) [] := by
    refine ⟨?_, World.ownsRow_nil _ _ _ _, by simp [Value.ownBlock], Nat.le_refl _⟩
    rw [hw0]; exact alloc_at2 _ _ _
  have hH0 : w0.heap[w.heap.size]? = some (.cells #[.int .u8 ver, .int .u8 ty, .int .u16 fl, .int .u32 st, .int .u32 ln] 26 (0, 0)) := by rw [hw0, blk_old _ (by simp), alloc_at]
  have HT0 := Lib.hid (HT.out.below hb0)
  have HW0 := Lib.hid (HW.out.below hb0)
  have HS0 := Lib.hid hS0
  have HH0 := Lib.hid hH0
  have HB0 := Lib.hid hb0
  have HE := Lib.hid hw0
  clear hb0 hS0 hH0 hw0
  go_enter Tryd.func45, Tryd.ntmps45
  go_upto_if 13 with fail
  rw [← HE.out]
  clear HE
  go_cut [] (fun wx => Hid ((∃ v, Say wx (w.heap.size + 1) (w.heap.size + 1) v (kindW ty)) ∧ Below (w.heap.size + 1) w0 wx))
  case first =>
    by_cases h4 : ty < 4
    · have c0 := HS0.out.cell
      have c0a := fun o => cell?_alloc_old o HS0.out.cell
      have h1 : w0.cell? ⟨w.heap.size, 1, none⟩ = some (.int .u8 ty) := cell_blk HH0.out rfl
      have hwd := HW0.out ty h4
      have h4' : (ty : Int) < 4 := by omega
      go_wp2_with fail
      go_region_law (refine step_append_lies _ rfl (.tmp 14) (.tmp 19) 110 rfl (w.heap.size + 1) 9 i0 (.string ⟨#[]⟩) 1 16 Tryd.underlying110 hi hz0 hz1 hz2 rfl (by decide) (.slice none 0 0) 0 [] (by simp [Act.eval, Act.put]) (World.ownsRow_nil _ _ _ _) _ 1 1 [.string (tyW ty)] (by simp [Act.eval, Act.put]) rfl (World.news_of_block (alloc_at w0 (.cells #[.string (tyW ty)] 9))) (by simp [Value.oneCell']) (by omega) (by unfold maxLen; omega) (by omega) (by simp; omega) _ rfl ?_; intro g cap w2 ho2 hg2 hat2 hlt2; have HSa := (HS0.out.next (((Below.refl _ _).alloc (Nat.le_refl _) (.cells #[.string (tyW ty)] 9)).drew)); have hbx := grown_blk hg2 HSa.ne HSa.box; have c2 := cell_blk (j := 0) hbx rfl; have f2 : w2.frozen? ⟨w.heap.size + 1, 0, none⟩ = false := free_blk hbx; have HP := Lib.hid (HSa.put (ys := [tyW ty]) rfl ho2 hg2 hat2); have HB2 := Lib.hid (((((Below.refl (w.heap.size + 1) w0).alloc (by omega) (.cells #[.string (tyW ty)] 9)).drew.grown hg2 (by simp; omega) (fun k hk => by cases hk))).setCell (p := ⟨w.heap.size + 1, 0, none⟩) (Nat.le_refl _) (.slice (some ⟨g, 0, none⟩) (0 + 1) cap)); clear HSa hbx ho2 hg2 hat2 hlt2)
      all_goals go_wp2_with fail
      all_goals go_meet
      all_goals exact ⟨⟨_, by rw [kindW, if_pos h4]; exact HP.out⟩, HB2.out⟩
    · have h1 : w0.cell? ⟨w.heap.size, 1, none⟩ = some (.int .u8 ty) := cell_blk HH0.out rfl
      go_wp2_with fail
      refine (say_any (n := ty) HS0.out (by omega) (by simp) (by omega) HT0.out).mono ?_
      rintro e w1 ⟨rfl, ⟨v1, hS1⟩, hb1⟩
      have HP := Lib.hid hS1
      have HB2 := Lib.hid hb1
      clear hS1 hb1
      go_wp2_with fail
      go_meet
      exact ⟨⟨_, by rw [kindW, if_neg h4]; exact HP.out⟩, HB2.out⟩
  case rest =>
  obtain ⟨⟨v1, hS1⟩, hb1⟩ := hcut.out
  have HS1 := Lib.hid hS1
  have HB1 := Lib.hid hb1
  clear hS1 hb1 hcut HS0
  have hv0 : wc.cell? ⟨w.heap.size, 0, none⟩ = some (.int .u8 ver) := cell_blk ((HB1.out.block w.heap.size (by omega)).trans HH0.out) rfl
  have HT1 := Lib.hid (HT.out.below (HB0.out.trans (HB1.out.mono (by omega))))
  have hzc : w0.heap.size ≤ wc.heap.size := HB1.out.size
  go_upto_if 28 with fail
  go_cut [] (fun wx => Hid ((∃ v, Say wx (w.heap.size + 1) (w.heap.size + 1) v (kindW ty ++ verW ver)) ∧ Below (w.heap.size + 1) w0 wx))
  case first =>
    by_cases hv : ver = 0
    · subst hv
      go_wp2_with fail
      go_meet
      exact ⟨⟨_, by rw [verW, if_pos rfl, List.append_nil]; exact HS1.out⟩, HB1.out⟩
    · go_wp2_with fail
      refine (say_any (n := ver) HS1.out (by omega) (by unfold kindW; split <;> simp) (by omega) HT1.out).mono ?_
      rintro e w1 ⟨rfl, ⟨v1, hS1⟩, hb1⟩
      have HP := Lib.hid hS1
      have HB2 := Lib.hid (HB1.out.trans hb1)
      clear hS1 hb1
      go_wp2_with fail
      go_meet
      exact ⟨⟨_, by rw [verW, if_neg hv]; exact HP.out⟩, HB2.out⟩
  case rest =>
  obtain ⟨⟨v2, hS2⟩, hb2⟩ := hcut.out
  have HS2 := Lib.hid hS2
  have HB2 := Lib.hid hb2
  clear hS2 hb2 hcut HS1 HB1 HT1 hv0 hzc
  rename World => wd
  have hf0 : wd.cell? ⟨w.heap.size, 2, none⟩ = some (.int .u16 fl) := cell_blk ((HB2.out.block w.heap.size (by omega)).trans HH0.out) rfl
  have HT2 := Lib.hid (HT.out.below (HB0.out.trans (HB2.out.mono (by omega))))
  have hzd : w0.heap.size ≤ wd.heap.size := HB2.out.size
  go_wp2_with fail
  have hx0 : ∀ W, (Instr.index 114 (.agg #[.string ⟨#[115, 121, 110]⟩, .string ⟨#[97, 99, 107]⟩, .string ⟨#[102, 105, 110]⟩, .string ⟨#[114, 115, 116]⟩]) (.int .i64 0)).run Tryd.prog W = .ok (.string ⟨#[115, 121, 110]⟩) W := fun _ => by kernel_rfl
  have hx1 : ∀ W, (Instr.index 114 (.agg #[.string ⟨#[115, 121, 110]⟩, .string ⟨#[97, 99, 107]⟩, .string ⟨#[102, 105, 110]⟩, .string ⟨#[114, 115, 116]⟩]) (.int .i64 1)).run Tryd.prog W = .ok (.string ⟨#[97, 99, 107]⟩) W := fun _ => by kernel_rfl
  have hx2 : ∀ W, (Instr.index 114 (.agg #[.string ⟨#[115, 121, 110]⟩, .string ⟨#[97, 99, 107]⟩, .string ⟨#[102, 105, 110]⟩, .string ⟨#[114, 115, 116]⟩]) (.int .i64 2)).run Tryd.prog W = .ok (.string ⟨#[102, 105, 110]⟩) W := fun _ => by kernel_rfl
  have hx3 : ∀ W, (Instr.index 114 (.agg #[.string ⟨#[115, 121, 110]⟩, .string ⟨#[97, 99, 107]⟩, .string ⟨#[102, 105, 110]⟩, .string ⟨#[114, 115, 116]⟩]) (.int .i64 3)).run Tryd.prog W = .ok (.string ⟨#[114, 115, 116]⟩) W := fun _ => by kernel_rfl
  go_loopw [5, 37] (fun r i wr => ∃ k : Nat, k ≤ 4 ∧ i = .int .i64 k ∧ r = .int .u16 (clr fl k) ∧ Hid ((∃ v, Say wr (w.heap.size + 1) (w.heap.size + 1) v (kindW ty ++ verW ver ++ flagW fl k)) ∧ Below (w.heap.size + 1) w0 wr)) (fun _ i _ => 4 - (intOf i).toNat)
  case atStart => exact ⟨0, by omega, rfl, by simp [clr], ⟨_, by rw [flagW, List.append_nil]; exact HS2.out⟩, HB2.out⟩
  case round =>
    obtain ⟨k, hk, rfl, rfl, HR⟩ := hrel
    by_cases hlt : k < 4
    · obtain ⟨⟨v3, hS3⟩, hb3⟩ := HR.out
      obtain ⟨xs3, hxs3⟩ : ∃ xs3, xs3 = kindW ty ++ verW ver ++ flagW fl k := ⟨_, rfl⟩
      rw [← hxs3] at hS3
      have hln3 : xs3.length ≤ 20 := by rw [hxs3]; have := flagW_len fl k; unfold kindW verW; simp only [List.length_append]; split <;> split <;> simp <;> omega
      have HX := Lib.hid hxs3
      have HS3 := Lib.hid hS3
      have HB3 := Lib.hid hb3
      clear HR hS3 hb3 hxs3
      have c3 := HS3.out.cell
      have hzr : w0.heap.size ≤ wr.heap.size := HB3.out.size
      obtain rfl | rfl | rfl | rfl : k = 0 ∨ k = 1 ∨ k = 2 ∨ k = 3 := by omega
      · have hb : bits .and .u16 (clr fl 0) 1 = (((fl / 2 ^ 0 % 2) * 2 ^ 0 : Nat) : Int) := clr_and fl 0 hfl (by omega)
        by_cases hbit : fl / 2 ^ 0 % 2 = 1
        · have hne : (bits .and .u16 (clr fl 0) 1 != 0) = true := by rw [hb, hbit]; rfl
          have hN : bits .andNot .u16 (clr fl 0) 1 = clr fl 1 := clr_andNot fl 0 hfl (by omega)
          clear hb
          have HC := Lib.hid c3
          go_wp2_with (at_builtin; refine wpList_append_lies _ rfl _ _ 110 rfl (w.heap.size + 1) 9 i0 (.string ⟨#[]⟩) 1 16 Tryd.underlying110 hi hz0 hz1 hz2 rfl (by decide) v3 xs3.length (strs xs3) rfl (HS3.out.next ((Below.refl _ _).alloc (Nat.le_refl _) _)).own _ 1 1 [.string ⟨#[115, 121, 110]⟩] rfl rfl (World.news_of_block (alloc_at wr (.cells #[.string ⟨#[115, 121, 110]⟩] 9))) (by simp [Value.oneCell']) (by omega) (by unfold maxLen; omega) (by omega) (by simp; omega) _ rfl ?_; intro g cap w2 ho2 hg2 hat2 hlt2; have HSa := (HS3.out.next ((Below.refl _ _).alloc (Nat.le_refl _) (.cells #[.string ⟨#[115, 121, 110]⟩] 9))); have hbx := grown_blk hg2 HSa.ne HSa.box; have c2 := cell_blk (j := 0) hbx rfl; have f2 : w2.frozen? ⟨w.heap.size + 1, 0, none⟩ = false := free_blk hbx; have HP := Lib.hid (HSa.put (ys := [⟨#[115, 121, 110]⟩]) rfl ho2 hg2 hat2); have HB4 := Lib.hid (((HB3.out.alloc (by omega) (.cells #[.string ⟨#[115, 121, 110]⟩] 9)).grown hg2 (by simp; omega) (fun k hk => (HSa.own.lt k hk).1)).setCell (p := ⟨w.heap.size + 1, 0, none⟩) (Nat.le_refl _) (.slice (some ⟨g, 0, none⟩) (xs3.length + 1) cap)); clear HSa hbx ho2 hg2 hat2 hlt2)
          go_roundw
          case rel => exact ⟨1, by omega, by go_num, rfl, ⟨_, by rw [show kindW ty ++ verW ver ++ flagW fl 1 = xs3 ++ [⟨#[115, 121, 110]⟩] from by rw [HX.out]; show kindW ty ++ verW ver ++ (_ ++ if _ then _ else _) = _; rw [if_pos hbit, ← List.append_assoc]; rfl]; exact HP.out⟩, HB4.out⟩
          case measure => simp [intOf]
        · have hne : (bits .and .u16 (clr fl 0) 1 != 0) = false := by rw [hb, show fl / 2 ^ 0 % 2 = 0 by omega]; rfl
          clear hb
          go_wp2_with fail
          go_roundw
          case rel => exact ⟨1, by omega, by go_num, by rw [clr_same fl 0 hbit], ⟨_, by rw [show kindW ty ++ verW ver ++ flagW fl 1 = xs3 from by rw [HX.out]; show kindW ty ++ verW ver ++ (_ ++ if _ then _ else _) = _; rw [if_neg hbit, List.append_nil]]; exact HS3.out⟩, HB3.out⟩
          case measure => simp [intOf]
      · have hb : bits .and .u16 (clr fl 1) 2 = (((fl / 2 ^ 1 % 2) * 2 ^ 1 : Nat) : Int) := clr_and fl 1 hfl (by omega)
        by_cases hbit : fl / 2 ^ 1 % 2 = 1
        · have hne : (bits .and .u16 (clr fl 1) 2 != 0) = true := by rw [hb, hbit]; rfl
          have hN : bits .andNot .u16 (clr fl 1) 2 = clr fl 2 := clr_andNot fl 1 hfl (by omega)
          clear hb
          have HC := Lib.hid c3
          go_wp2_with (at_builtin; refine wpList_append_lies _ rfl _ _ 110 rfl (w.heap.size + 1) 9 i0 (.string ⟨#[]⟩) 1 16 Tryd.underlying110 hi hz0 hz1 hz2 rfl (by decide) v3 xs3.length (strs xs3) rfl (HS3.out.next ((Below.refl _ _).alloc (Nat.le_refl _) _)).own _ 1 1 [.string ⟨#[97, 99, 107]⟩] rfl rfl (World.news_of_block (alloc_at wr (.cells #[.string ⟨#[97, 99, 107]⟩] 9))) (by simp [Value.oneCell']) (by omega) (by unfold maxLen; omega) (by omega) (by simp; omega) _ rfl ?_; intro g cap w2 ho2 hg2 hat2 hlt2; have HSa := (HS3.out.next ((Below.refl _ _).alloc (Nat.le_refl _) (.cells #[.string ⟨#[97, 99, 107]⟩] 9))); have hbx := grown_blk hg2 HSa.ne HSa.box; have c2 := cell_blk (j := 0) hbx rfl; have f2 : w2.frozen? ⟨w.heap.size + 1, 0, none⟩ = false := free_blk hbx; have HP := Lib.hid (HSa.put (ys := [⟨#[97, 99, 107]⟩]) rfl ho2 hg2 hat2); have HB4 := Lib.hid (((HB3.out.alloc (by omega) (.cells #[.string ⟨#[97, 99, 107]⟩] 9)).grown hg2 (by simp; omega) (fun k hk => (HSa.own.lt k hk).1)).setCell (p := ⟨w.heap.size + 1, 0, none⟩) (Nat.le_refl _) (.slice (some ⟨g, 0, none⟩) (xs3.length + 1) cap)); clear HSa hbx ho2 hg2 hat2 hlt2)
          go_roundw
          case rel => exact ⟨2, by omega, by go_num, rfl, ⟨_, by rw [show kindW ty ++ verW ver ++ flagW fl 2 = xs3 ++ [⟨#[97, 99, 107]⟩] from by rw [HX.out]; show kindW ty ++ verW ver ++ (_ ++ if _ then _ else _) = _; rw [if_pos hbit, ← List.append_assoc]; rfl]; exact HP.out⟩, HB4.out⟩
          case measure => simp [intOf]
        · have hne : (bits .and .u16 (clr fl 1) 2 != 0) = false := by rw [hb, show fl / 2 ^ 1 % 2 = 0 by omega]; rfl
          clear hb
          go_wp2_with fail
          go_roundw
          case rel => exact ⟨2, by omega, by go_num, by rw [clr_same fl 1 hbit], ⟨_, by rw [show kindW ty ++ verW ver ++ flagW fl 2 = xs3 from by rw [HX.out]; show kindW ty ++ verW ver ++ (_ ++ if _ then _ else _) = _; rw [if_neg hbit, List.append_nil]]; exact HS3.out⟩, HB3.out⟩
          case measure => simp [intOf]
      · have hb : bits .and .u16 (clr fl 2) 4 = (((fl / 2 ^ 2 % 2) * 2 ^ 2 : Nat) : Int) := clr_and fl 2 hfl (by omega)
        by_cases hbit : fl / 2 ^ 2 % 2 = 1
        · have hne : (bits .and .u16 (clr fl 2) 4 != 0) = true := by rw [hb, hbit]; rfl
          have hN : bits .andNot .u16 (clr fl 2) 4 = clr fl 3 := clr_andNot fl 2 hfl (by omega)
          clear hb
          have HC := Lib.hid c3
          go_wp2_with (at_builtin; refine wpList_append_lies _ rfl _ _ 110 rfl (w.heap.size + 1) 9 i0 (.string ⟨#[]⟩) 1 16 Tryd.underlying110 hi hz0 hz1 hz2 rfl (by decide) v3 xs3.length (strs xs3) rfl (HS3.out.next ((Below.refl _ _).alloc (Nat.le_refl _) _)).own _ 1 1 [.string ⟨#[102, 105, 110]⟩] rfl rfl (World.news_of_block (alloc_at wr (.cells #[.string ⟨#[102, 105, 110]⟩] 9))) (by simp [Value.oneCell']) (by omega) (by unfold maxLen; omega) (by omega) (by simp; omega) _ rfl ?_; intro g cap w2 ho2 hg2 hat2 hlt2; have HSa := (HS3.out.next ((Below.refl _ _).alloc (Nat.le_refl _) (.cells #[.string ⟨#[102, 105, 110]⟩] 9))); have hbx := grown_blk hg2 HSa.ne HSa.box; have c2 := cell_blk (j := 0) hbx rfl; have f2 : w2.frozen? ⟨w.heap.size + 1, 0, none⟩ = false := free_blk hbx; have HP := Lib.hid (HSa.put (ys := [⟨#[102, 105, 110]⟩]) rfl ho2 hg2 hat2); have HB4 := Lib.hid (((HB3.out.alloc (by omega) (.cells #[.string ⟨#[102, 105, 110]⟩] 9)).grown hg2 (by simp; omega) (fun k hk => (HSa.own.lt k hk).1)).setCell (p := ⟨w.heap.size + 1, 0, none⟩) (Nat.le_refl _) (.slice (some ⟨g, 0, none⟩) (xs3.length + 1) cap)); clear HSa hbx ho2 hg2 hat2 hlt2)
          go_roundw
          case rel => exact ⟨3, by omega, by go_num, rfl, ⟨_, by rw [show kindW ty ++ verW ver ++ flagW fl 3 = xs3 ++ [⟨#[102, 105, 110]⟩] from by rw [HX.out]; show kindW ty ++ verW ver ++ (_ ++ if _ then _ else _) = _; rw [if_pos hbit, ← List.append_assoc]; rfl]; exact HP.out⟩, HB4.out⟩
          case measure => simp [intOf]
        · have hne : (bits .and .u16 (clr fl 2) 4 != 0) = false := by rw [hb, show fl / 2 ^ 2 % 2 = 0 by omega]; rfl
          clear hb
          go_wp2_with fail
          go_roundw
          case rel => exact ⟨3, by omega, by go_num, by rw [clr_same fl 2 hbit], ⟨_, by rw [show kindW ty ++ verW ver ++ flagW fl 3 = xs3 from by rw [HX.out]; show kindW ty ++ verW ver ++ (_ ++ if _ then _ else _) = _; rw [if_neg hbit, List.append_nil]]; exact HS3.out⟩, HB3.out⟩
          case measure => simp [intOf]
      · have hb : bits .and .u16 (clr fl 3) 8 = (((fl / 2 ^ 3 % 2) * 2 ^ 3 : Nat) : Int) := clr_and fl 3 hfl (by omega)
        by_cases hbit : fl / 2 ^ 3 % 2 = 1
        · have hne : (bits .and .u16 (clr fl 3) 8 != 0) = true := by rw [hb, hbit]; rfl
          have hN : bits .andNot .u16 (clr fl 3) 8 = clr fl 4 := clr_andNot fl 3 hfl (by omega)
          clear hb
          have HC := Lib.hid c3
          go_wp2_with (at_builtin; refine wpList_append_lies _ rfl _ _ 110 rfl (w.heap.size + 1) 9 i0 (.string ⟨#[]⟩) 1 16 Tryd.underlying110 hi hz0 hz1 hz2 rfl (by decide) v3 xs3.length (strs xs3) rfl (HS3.out.next ((Below.refl _ _).alloc (Nat.le_refl _) _)).own _ 1 1 [.string ⟨#[114, 115, 116]⟩] rfl rfl (World.news_of_block (alloc_at wr (.cells #[.string ⟨#[114, 115, 116]⟩] 9))) (by simp [Value.oneCell']) (by omega) (by unfold maxLen; omega) (by omega) (by simp; omega) _ rfl ?_; intro g cap w2 ho2 hg2 hat2 hlt2; have HSa := (HS3.out.next ((Below.refl _ _).alloc (Nat.le_refl _) (.cells #[.string ⟨#[114, 115, 116]⟩] 9))); have hbx := grown_blk hg2 HSa.ne HSa.box; have c2 := cell_blk (j := 0) hbx rfl; have f2 : w2.frozen? ⟨w.heap.size + 1, 0, none⟩ = false := free_blk hbx; have HP := Lib.hid (HSa.put (ys := [⟨#[114, 115, 116]⟩]) rfl ho2 hg2 hat2); have HB4 := Lib.hid (((HB3.out.alloc (by omega) (.cells #[.string ⟨#[114, 115, 116]⟩] 9)).grown hg2 (by simp; omega) (fun k hk => (HSa.own.lt k hk).1)).setCell (p := ⟨w.heap.size + 1, 0, none⟩) (Nat.le_refl _) (.slice (some ⟨g, 0, none⟩) (xs3.length + 1) cap)); clear HSa hbx ho2 hg2 hat2 hlt2)
          go_roundw
          case rel => exact ⟨4, by omega, by go_num, rfl, ⟨_, by rw [show kindW ty ++ verW ver ++ flagW fl 4 = xs3 ++ [⟨#[114, 115, 116]⟩] from by rw [HX.out]; show kindW ty ++ verW ver ++ (_ ++ if _ then _ else _) = _; rw [if_pos hbit, ← List.append_assoc]; rfl]; exact HP.out⟩, HB4.out⟩
          case measure => simp [intOf]
        · have hne : (bits .and .u16 (clr fl 3) 8 != 0) = false := by rw [hb, show fl / 2 ^ 3 % 2 = 0 by omega]; rfl
          clear hb
          go_wp2_with fail
          go_roundw
          case rel => exact ⟨4, by omega, by go_num, by rw [clr_same fl 3 hbit], ⟨_, by rw [show kindW ty ++ verW ver ++ flagW fl 4 = xs3 from by rw [HX.out]; show kindW ty ++ verW ver ++ (_ ++ if _ then _ else _) = _; rw [if_neg hbit, List.append_nil]]; exact HS3.out⟩, HB3.out⟩
          case measure => simp [intOf]
    · obtain rfl : k = 4 := by omega
      obtain ⟨⟨v3, hS3⟩, hb3⟩ := HR.out
      have HS3 := Lib.hid hS3
      have HB3 := Lib.hid hb3
      clear HR hS3 hb3
      have HT3 := Lib.hid (HT.out.below (HB0.out.trans (HB3.out.mono (by omega))))
      have hzr : w0.heap.size ≤ wr.heap.size := HB3.out.size
      go_upto_if 56 with fail
      have hcl : clr fl 4 = ((fl / 16 * 16 : Nat) : Int) := rfl
      have hl3 : (kindW ty ++ verW ver ++ flagW fl 4).length ≤ 20 := by have := flagW_len fl 4; unfold kindW verW; simp only [List.length_append]; split <;> split <;> simp <;> omega
      go_cut [] (fun wx => Hid ((∃ v, Say wx (w.heap.size + 1) (w.heap.size + 1) v (kindW ty ++ verW ver ++ flagW fl 4 ++ restW fl)) ∧ Below (w.heap.size + 1) w0 wx))
      case first =>
        by_cases h16 : fl / 16 = 0
        · have hne : (clr fl 4 != 0) = false := by rw [hcl, h16]; rfl
          clear hcl
          go_wp2_with fail
          go_meet
          exact ⟨⟨_, by rw [restW, if_pos h16, List.append_nil]; exact HS3.out⟩, HB3.out⟩
        · have hne : (clr fl 4 != 0) = true := by rw [hcl, bne_iff_ne]; omega
          have hwr : IntKind.u64.wrap (clr fl 4) = ((fl / 16 * 16 : Nat) : Int) := by rw [hcl, IntKind.wrap_u64]; omega
          clear hcl
          go_wp2_with fail
          refine (say_any (n := fl / 16 * 16) HS3.out (by omega) (by omega) (by omega) HT3.out).mono ?_
          rintro e w4 ⟨rfl, ⟨v4, hS4⟩, hb4⟩
          have HP := Lib.hid hS4
          have HB4 := Lib.hid (HB3.out.trans hb4)
          clear hS4 hb4
          go_wp2_with fail
          go_meet
          exact ⟨⟨_, by rw [restW, if_neg h16]; exact HP.out⟩, HB4.out⟩
      case rest =>
      obtain ⟨⟨v4, hS4⟩, hb4⟩ := hcut.out
      have HS4 := Lib.hid hS4
      have HB4 := Lib.hid hb4
      clear hS4 hb4 hcut HS3 HB3 HT3 hzr hcl
      rename World => wf
      have hs4 : wf.cell? ⟨w.heap.size, 3, none⟩ = some (.int .u32 st) := cell_blk ((HB4.out.block w.heap.size (by omega)).trans HH0.out) rfl
      have hz4 : w0.heap.size ≤ wf.heap.size := HB4.out.size
      have hl4 : (kindW ty ++ verW ver ++ flagW fl 4 ++ restW fl).length ≤ 22 := by rw [List.length_append]; unfold restW; split <;> simp <;> simp at hl3 <;> omega
      have HT4 := Lib.hid (HT.out.below (HB0.out.trans (HB4.out.mono (by omega))))
      go_wp2_with fail
      refine (say_any (n := st) HS4.out (by omega) (by omega) (by omega) HT4.out).mono ?_
      rintro e w5 ⟨rfl, ⟨v5, hS5⟩, hb5⟩
      have HS5 := Lib.hid hS5
      have HB5 := Lib.hid (HB4.out.trans hb5)
      clear hS5 hb5 hs4
      have hs5 : w5.cell? ⟨w.heap.size, 4, none⟩ = some (.int .u32 ln) := cell_blk ((HB5.out.block w.heap.size (by omega)).trans HH0.out) rfl
      have hz5 : w0.heap.size ≤ w5.heap.size := HB5.out.size
      have HT5 := Lib.hid (HT.out.below (HB0.out.trans (HB5.out.mono (by omega))))
      go_wp2_with fail
      refine (say_any (n := ln) HS5.out (by omega) (by rw [List.length_append]; simp; simp at hl4; omega) (by omega) HT5.out).mono ?_
      rintro e w6 ⟨rfl, ⟨v6, hS6⟩, hb6⟩
      have HB6 := Lib.hid (HB5.out.trans hb6)
      have hS6' : Say w6 (w.heap.size + 1) (w.heap.size + 1) v6 (allW ver ty fl st ln) := hS6
      obtain ⟨g6, cap6, rfl, hg6, hlt6⟩ := hS6'.own.form (by unfold allW; simp; omega)
      have hcells := row_cells hS6'.own
      have c6 := hS6'.cell
      have hcp : (allW ver ty fl st ln).length ≤ cap6 := by
        rcases hS6'.own.2 with ⟨e, _⟩ | ⟨g', cap, cur, hv, hb, hg, hn, _⟩
        · cases e
        · obtain ⟨rfl, rfl⟩ : g6 = g' ∧ cap6 = cap := by simpa using hv
          exact hn
      have HC6 := Lib.hid hcells
      have HCP := Lib.hid hcp
      clear hS6 hS6' hcells hb6 hcp
      go_wp2_with fail
      refine (Tryd.strings_Join g6 0 cap6 (allW ver ty fl st ln) ⟨#[32]⟩ _ (fun j x hx => ?_) hlt6 (by have := allW_len ver ty fl st ln; omega) HCP.out (by have := text_len ver ty fl st ln hver hty hfl hst hln; unfold textB at this; exact Nat.le_trans this (by omega))).mono ?_
      · have := HC6.out j (.string x) (by simp [strs, hx])
        rwa [Addr.add_lit] at this
      rintro e w7 ⟨rfl, hb7⟩
      go_wp2_with fail
      go_ret
      exact ⟨rfl, HB0.out.trans ((HB6.out.mono (by omega)).trans (hb7.mono (by have := HB6.out.size; omega)))⟩
end Go.Proofs.YtfddhipdedcacaaDoor
