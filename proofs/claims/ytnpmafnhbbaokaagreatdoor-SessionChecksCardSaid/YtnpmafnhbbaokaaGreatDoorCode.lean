/-
  culvertlaw01.Code: the number of an error.
-/
import Derived.Test.YtnpmafnhbbaokaaGreatDoorGood
namespace Go.Proofs.YtnpmafnhbbaokaaGreatDoor
open Go.RowKit
set_option linter.unusedVariables false

theorem EV.iface {sa : Nat → Addr} {w : World} {c : Nat} {s : Int} {v : Value} (hE : EV sa w c s v) (h0 : 0 < c) : ∃ T x, v = .iface T x := by
  rcases hE with ⟨rfl, rfl⟩ | ⟨c1, c2, rfl⟩ | ⟨c1, c2, c3, b, o, rfl, _, _⟩
  · omega
  · exact ⟨_, _, rfl⟩
  · exact ⟨_, _, rfl⟩

/-- How many of the numbers 1 to m, and which, whether the 28th: what the loop has found. -/
def cK (c : Nat) : Nat := if 1000 < c then c - 1000 else c
def cF (c m : Nat) : Int := if cK c ≠ 28 ∧ cK c ≤ m then 1 else 0
def cW (c m : Nat) : Int := if cK c ≠ 28 ∧ cK c ≤ m then cK c else 0
def cB (c m : Nat) : Bool := (decide (1000 < c) || c == 28) && decide (28 ≤ m)

def cOK (c : Nat) : Prop := (1 ≤ c ∧ c ≤ 42) ∨ (1000 < c ∧ c ≤ 1042 ∧ c ≠ 1028)
theorem EV.ok {sa : Nat → Addr} {w : World} {c : Nat} {s : Int} {v : Value} (hE : EV sa w c s v) (h0 : 0 < c) : cOK c := by
  rcases hE with ⟨rfl, rfl⟩ | ⟨c1, c2, rfl⟩ | ⟨c1, c2, c3, _⟩
  · omega
  · exact .inl ⟨c1, c2⟩
  · exact .inr ⟨c1, c2, c3⟩

theorem cK_ok {c : Nat} (h : cOK c) : 1 ≤ cK c ∧ cK c ≤ 42 := by unfold cOK at h; unfold cK; split <;> omega
theorem isB_true {c n : Nat} (h : cOK c) (h1 : 1 ≤ n) (h2 : n ≤ 42) (hn : n ≠ 28) : isB c n = true ↔ cK c = n := by
  unfold cOK at h; unfold isB cK
  simp only [Bool.or_eq_true, beq_iff_eq, Bool.and_eq_true, decide_eq_true_eq]
  split <;> omega
theorem isB_28 {c : Nat} (h : cOK c) : isB c 28 = (decide (1000 < c) || c == 28) := by
  unfold cOK at h; unfold isB
  rw [Bool.eq_iff_iff]
  simp only [Bool.or_eq_true, beq_iff_eq, Bool.and_eq_true, decide_eq_true_eq, and_true]
  omega
theorem c_zero {c : Nat} (h : cOK c) : cF c 0 = 0 ∧ cW c 0 = 0 ∧ cB c 0 = false := by
  have := cK_ok h
  refine ⟨if_neg (by omega), if_neg (by omega), by simp [cB]⟩
theorem c_keep {c m : Nat} (hc : cK c ≠ m + 1 ∨ cK c = 28) : cF c (m + 1) = cF c m ∧ cW c (m + 1) = cW c m := by
  unfold cF cW
  by_cases h : cK c ≠ 28 ∧ cK c ≤ m
  · rw [if_pos h, if_pos h, if_pos ⟨h.1, by omega⟩, if_pos ⟨h.1, by omega⟩]; exact ⟨rfl, rfl⟩
  · rw [if_neg h, if_neg h, if_neg (by omega), if_neg (by omega)]; exact ⟨rfl, rfl⟩
theorem cB_keep {c m : Nat} (hm : m + 1 ≠ 28) : cB c (m + 1) = cB c m := by
  unfold cB
  congr 1
  simp only [decide_eq_decide]; omega
theorem c_miss {c m : Nat} (h : cOK c) (h2 : m + 1 ≤ 42) (hb : (!isB c (m + 1)) = true) : cF c (m + 1) = cF c m ∧ cW c (m + 1) = cW c m ∧ cB c (m + 1) = cB c m := by
  have hb' : isB c (m + 1) = false := by simpa using hb
  by_cases h28 : m + 1 = 28
  · obtain rfl : m = 27 := by omega
    rw [isB_28 h] at hb'
    have hk : cK c ≠ 28 := by
      unfold cOK at h; unfold cK
      simp only [Bool.or_eq_false_iff, decide_eq_false_iff_not, beq_eq_false_iff_ne] at hb'
      split <;> omega
    have := c_keep (c := c) (m := 27) (.inl (by omega))
    exact ⟨this.1, this.2, by unfold cB; rw [hb']; rfl⟩
  · have hk : cK c ≠ m + 1 := fun e => by
      have := (isB_true h (by omega) h2 h28).2 e
      rw [hb'] at this; cases this
    have := c_keep (c := c) (m := m) (.inl hk)
    exact ⟨this.1, this.2, cB_keep h28⟩
theorem c_28 {c m : Nat} (h : cOK c) (hb : (!isB c (m + 1)) = false) (h28 : m + 1 = 28) : cF c (m + 1) = cF c m ∧ cW c (m + 1) = cW c m ∧ cB c (m + 1) = true := by
  obtain rfl : m = 27 := by omega
  have hb' : isB c 28 = true := by simpa using hb
  rw [isB_28 h] at hb'
  have hk : cK c ≠ 27 + 1 ∨ cK c = 28 := by omega
  have := c_keep (c := c) (m := 27) hk
  exact ⟨this.1, this.2, by unfold cB; rw [hb']; rfl⟩
theorem c_hit {c m : Nat} (h : cOK c) (h2 : m + 1 ≤ 42) (hb : (!isB c (m + 1)) = false) (h28 : m + 1 ≠ 28) : cF c m = 0 ∧ cF c (m + 1) = 1 ∧ cW c (m + 1) = ((m + 1 : Nat) : Int) ∧ cB c (m + 1) = cB c m := by
  have hb' : isB c (m + 1) = true := by simpa using hb
  have hk := (isB_true h (by omega) h2 h28).1 hb'
  refine ⟨if_neg (by omega), if_pos (by omega), ?_, cB_keep h28⟩
  unfold cW; rw [if_pos (by omega), hk]
theorem wrap_one : wrap64 (0 + 1) = 1 := by unfold wrap64; omega
theorem wrap_small {x : Int} (h0 : -9223372036854775808 ≤ x) (h1 : x ≤ 9223372036854775807) : wrap64 x = x := by unfold wrap64; omega
theorem ret_bool {a b : Bool} (h : a = b) : Ending.returned (.bool a) = .returned (.bool b) := by rw [h]
theorem ret_int {k : IntKind} {a b : Int} (h : a = b) : Ending.returned (.int k a) = .returned (.int k b) := by rw [h]
/-- Behind the loop. -/
def cEnd (c : Nat) : Int := if cF c 42 = 1 ∧ cB c 42 = true then 1000 + cW c 42 else if cF c 42 = 1 then cW c 42 else if cF c 42 = 0 ∧ cB c 42 = true then 28 else -1
theorem c_F {c : Nat} (h : cOK c) : cF c 42 = if cK c = 28 then 0 else 1 := by
  have := cK_ok h
  unfold cF
  by_cases h28 : cK c = 28
  · rw [if_neg (by omega), if_pos h28]
  · rw [if_pos (by omega), if_neg h28]
theorem cK_big {c : Nat} (h : 1000 < c) : cK c = c - 1000 := if_pos h
theorem cK_small {c : Nat} (h : ¬ 1000 < c) : cK c = c := if_neg h
theorem c_yy {c : Nat} (h : cOK c) (hf : cF c 42 = 1) (hb : cB c 42 = true) : 1000 + cW c 42 = (c : Int) ∧ 0 ≤ cW c 42 ∧ cW c 42 ≤ 42 := by
  rw [c_F h] at hf
  have hk := cK_ok h
  have hn : cK c ≠ 28 := fun e => by rw [if_pos e] at hf; cases hf
  have e : cW c 42 = cK c := by unfold cW; rw [if_pos (by omega)]
  rw [e]
  unfold cB at hb
  simp only [Bool.and_eq_true, Bool.or_eq_true, decide_eq_true_eq, beq_iff_eq] at hb
  unfold cOK at h
  by_cases hc : 1000 < c
  · rw [cK_big hc] at *; omega
  · rw [cK_small hc] at *; omega
theorem c_yn {c : Nat} (h : cOK c) (hf : cF c 42 = 1) (hb : cB c 42 = false) : cW c 42 = (c : Int) := by
  rw [c_F h] at hf
  have hk := cK_ok h
  have hn : cK c ≠ 28 := fun e => by rw [if_pos e] at hf; cases hf
  have e : cW c 42 = cK c := by unfold cW; rw [if_pos (by omega)]
  rw [e]
  have hc : ¬ 1000 < c := fun hc => by
    have e : cB c 42 = true := by simp [cB, hc]
    rw [e] at hb; cases hb
  rw [cK_small hc]
theorem c_ny {c : Nat} (h : cOK c) (hf : cF c 42 ≠ 1) : (c : Int) = 28 := by
  rw [c_F h] at hf
  have hn : cK c = 28 := by by_cases e : cK c = 28; exact e; rw [if_neg e] at hf; exact absurd rfl hf
  unfold cOK at h; unfold cK at hn
  split at hn <;> omega
theorem c_nb {c : Nat} (h : cOK c) (hf : cF c 42 ≠ 1) : cF c 42 = 0 ∧ cB c 42 = true := by
  have e := c_ny h hf
  obtain rfl : c = 28 := by omega
  exact ⟨rfl, rfl⟩

set_option maxHeartbeats 800000 in
theorem code_err {sa : Nat → Addr} {w : World} {c : Nat} {s : Int} {v : Value} (hG : Good w sa) (hE : EV sa w c s v) (h0 : 0 < c) :
    Calls Tryz.prog 9 #[v] w fun e w' => e = .returned (.int .i64 c) ∧ w' = w := by
  obtain ⟨T, x, rfl⟩ := hE.iface h0
  have HK := Lib.hid (hE.ok h0)
  have HE := Lib.hid hE
  have HG := Lib.hid hG
  clear hE hG
  go_enter Tryz.func9, Tryz.ntmps9
  go_wp2_with fail
  go_loop [3, 4, 5, 6] (fun f y b n => ∃ m : Nat, m ≤ 42 ∧ n = .int .i64 (m + 1 : Nat) ∧ f = .int .i64 (cF c m) ∧ y = .int .i64 (cW c m) ∧ b = .bool (cB c m)) (fun _ _ _ n => 43 - (intOf n).toNat)
  case atStart =>
    obtain ⟨e1, e2, e3⟩ := c_zero HK.out
    exact ⟨0, by omega, rfl, by rw [e1], by rw [e2], by rw [e3]⟩
  case round =>
    obtain ⟨m, hm, rfl, rfl, rfl, rfl⟩ := hrel
    by_cases hlt : m < 42
    · have hS := Lib.hid (sentinel_any sa ((m + 1 : Nat) : Int) w HG.out (by omega) (by omega))
      have hI := Lib.hid (is_any HG.out HE.out (m + 1) (by omega) (by omega))
      go_wp2_with (first | (go_at_call 21; refine hS.out.mono ?_; rintro e w1 ⟨rfl, rfl⟩) | (go_at_call 20; refine hI.out.mono ?_; rintro e w1 ⟨rfl, rfl⟩))
      · have hb : (!isB c (m + 1)) = true := by assumption
        obtain ⟨e1, e2, e3⟩ := c_miss HK.out hlt hb
        go_round
        case rel => exact ⟨m + 1, by omega, by go_num, by rw [e1], by rw [e2], by rw [e3]⟩
        case measure => simp [intOf]; omega
      · have hb : (!isB c (m + 1)) = false := by assumption
        have h28 : ((m : Int) + 1 == 28) = true := by assumption
        obtain ⟨e1, e2, e3⟩ := c_28 HK.out hb (by simp only [beq_iff_eq] at h28; omega)
        go_round
        case rel => exact ⟨m + 1, by omega, by go_num, by rw [e1], by rw [e2], by rw [e3]⟩
        case measure => simp [intOf]; omega
      · have hb : (!isB c (m + 1)) = false := by assumption
        have h28 : ((m : Int) + 1 == 28) = false := by assumption
        obtain ⟨e0, e1, e2, e3⟩ := c_hit HK.out hlt hb (by simp only [beq_eq_false_iff_ne] at h28; omega)
        go_round
        case rel => exact ⟨m + 1, by omega, by go_num, by rw [e1, e0, wrap_one], by rw [e2]; go_num, by rw [e3]⟩
        case measure => simp [intOf]; omega
    · obtain rfl : m = 42 := by omega
      clear hlt hm
      have hy := fun h h' => (c_yy HK.out h h')
      have hyn := fun h h' => (c_yn HK.out h h')
      have hny := fun h => (c_ny HK.out h)
      have hnb := fun h => (c_nb HK.out h)
      have Hy := Lib.hid hy
      have Hyn := Lib.hid hyn
      have Hny := Lib.hid hny
      have Hnb := Lib.hid hnb
      clear hy hyn hny hnb
      go_wp2_with fail
      · have hf : cF c 42 = 1 := by assumption
        have hb : cB c 42 = true := by assumption
        obtain ⟨e1, e2, e3⟩ := Hy.out hf hb
        go_ret
        exact ⟨ret_int (by rw [wrap_small (by omega) (by omega)]; exact e1), rfl⟩
      · have hf : cF c 42 = 1 := by assumption
        have hb : cB c 42 = false := by assumption
        go_ret
        exact ⟨ret_int (Hyn.out hf hb), rfl⟩
      · have hf : ¬ cF c 42 = 1 := by assumption
        go_ret
        exact ⟨ret_int (Hny.out hf).symm, rfl⟩
      · have hf : ¬ cF c 42 = 1 := by assumption
        have hb : cB c 42 = false := by assumption
        rw [(Hnb.out hf).2] at hb; cases hb
      · have hf : ¬ cF c 42 = 1 := by assumption
        exact absurd (Hnb.out hf).1 (by assumption)

theorem code_nil (w : World) : Calls Tryz.prog 9 #[.nilIface] w fun e w' => e = .returned (.int .i64 0) ∧ w' = w := by
  go_enter Tryz.func9, Tryz.ntmps9
  go_wp2
  go_ret
  exact ⟨rfl, rfl⟩

/-- Code of an error value. -/
theorem code_any {sa : Nat → Addr} {w : World} {c : Nat} {s : Int} {v : Value} (hG : Good w sa) (hE : EV sa w c s v) :
    Calls Tryz.prog 9 #[v] w fun e w' => e = .returned (.int .i64 c) ∧ w' = w := by
  by_cases h0 : 0 < c
  · exact code_err hG hE h0
  · obtain rfl : c = 0 := by omega
    rcases hE with ⟨_, rfl⟩ | ⟨c1, _, _⟩ | ⟨c1, _, _, _⟩
    · exact code_nil w
    · omega
    · omega
end Go.Proofs.YtnpmafnhbbaokaaGreatDoor
