/-
  frame.Check and the reference's Check.
-/
import Derived.Test.YtfddhipdedcacaaDoorCode
import Derived.Deep.QuietTactic
import Derived.BigQuiet
namespace Go.Proofs.YtfddhipdedcacaaDoor
open Go.RowKit
set_option linter.unusedVariables false

/-- Which flags a type may have: frame's table. -/
def lawL : Nat → List Int
  | 0 => [0, 1, 2, 4, 8, 5, 6]
  | 1 => [0, 1, 2, 4, 8, 5, 6]
  | 2 => [1, 2]
  | 3 => [0]
  | _ => []

def hasB (l : List Int) (x : Int) : Bool := l.contains x
theorem hasB_hit {l : List Int} {x : Int} {k : Nat} (hk : k < l.length) (h : (l[k] == x) = true) : hasB l x = true := by
  unfold hasB
  have : l[k] = x := by simpa using h
  rw [List.contains_iff_mem, ← this]
  exact List.getElem_mem hk
theorem hasB_step {l : List Int} {x : Int} {k : Nat} (hk : k < l.length) (h : (l[k] == x) = false) (hn : hasB (l.take k) x = false) : hasB (l.take (k + 1)) x = false := by
  unfold hasB at *
  rw [List.take_succ_eq_append_getElem hk, List.contains_eq_mem] at *
  simp only [decide_eq_false_iff_not] at hn
  have h' : ¬ l[k] = x := by simpa using h
  simp only [List.mem_append, List.mem_singleton, decide_eq_false_iff_not, not_or]
  exact ⟨hn, fun e => h' e.symm⟩

theorem has_any (a : Addr) (l : List Int) (c : Nat) (x : Int) (w : World) (hl : l.length ≤ 100) (hc : ∀ j, j < l.length → w.cell? (a.add j) = some (.int .u16 (l.getD j 0))) :
    Calls Tryd.prog 48 #[.slice (some a) l.length c, .int .u16 x] w fun e w' => e = .returned (.bool (hasB l x)) ∧ w' = w := by
  go_enter Tryd.func48, Tryd.ntmps48
  go_wp2_with fail
  go_loop [9] (fun i => ∃ k : Nat, k ≤ l.length ∧ i = .int .i64 k ∧ hasB (l.take k) x = false) (fun i => l.length - (intOf i).toNat)
  case atStart => exact ⟨0, by omega, rfl, by simp [hasB]⟩
  case round =>
    obtain ⟨k, hk, rfl, hno⟩ := hrel
    have HN := Lib.hid hno
    clear hno
    by_cases hlt : k < l.length
    · have hck := hc k hlt
      have HC := Lib.hid hc
      clear hc
      go_wp2
      · have h := hasB_hit hlt (by assumption)
        go_ret
        exact ⟨ret_bool h.symm, rfl⟩
      · have h := hasB_step hlt (by assumption) HN.out
        go_round
        case rel => exact ⟨k + 1, by omega, by go_num, h⟩
        case measure => simp [intOf]; omega
    · obtain rfl : k = l.length := by omega
      go_wp2
      go_ret
      exact ⟨ret_bool (by rw [← HN.out, List.take_length]), rfl⟩

/-- The document's numbers of what Check answers. -/
def lawfulB (ty fl : Int) : Bool := hasB (lawL ty.toNat) fl
def chk (ver ty fl st ln most : Int) : Nat :=
  if ver ≠ 0 then 11 else if 4 ≤ ty then 12 else if lawfulB ty fl = false then 13 else
  if (st = 0 ∧ ty < 2) ∨ (st ≠ 0 ∧ 2 ≤ ty) then 14 else
  if ty = 0 ∧ max most 0 < ln then 15 else if ty ≤ 1 ∧ fl = 8 ∧ ln ≠ 0 then 15 else if ty = 3 ∧ 2 < ln then 15 else 0

/-- frame's table lies there. -/
structure Lawful (w : World) : Prop where
  at_ : ∀ i, i < 4 → ∃ a c, w.cell? ⟨2, i, none⟩ = some (.slice (some a) (lawL i).length c) ∧ (∀ j, j < (lawL i).length → w.cell? (a.add j) = some (.int .u16 ((lawL i).getD j 0)))
theorem Lawful.below {w w' : World} (h : Lawful w) (hb : Below w.heap.size w w') : Lawful w' := by
  refine ⟨fun i hi => ?_⟩
  obtain ⟨a, c, h1, h2⟩ := h.at_ i hi
  exact ⟨a, c, (hb.cell (World.block_lt_of_cell? w _ h1)).trans h1, fun j hj => (hb.cell (World.block_lt_of_cell? w _ (h2 j hj))).trans (h2 j hj)⟩
def errv (sa : Nat → Addr) (c : Nat) : Value := if c = 0 then .nilIface else sv (sa c)
theorem errv_EV {sa : Nat → Addr} {w : World} {c : Nat} (s : Int) (h : c ≤ 42) : EV sa w c s (errv sa c) := by
  unfold errv
  by_cases h0 : c = 0
  · rw [if_pos h0]; exact .inl ⟨h0, rfl⟩
  · rw [if_neg h0]; exact .inr (.inl ⟨by omega, h, rfl⟩)

theorem cell_alloc {w : World} {a : Addr} {v : Value} (h : w.cell? a = some v) : ∀ o : Obj, (w.alloc o).cell? a = some v := fun o => cell?_alloc_old o h

def chkT (ty fl ln most : Int) : Nat := if ty = 0 ∧ max most 0 < ln then 15 else if ty ≤ 1 ∧ fl = 8 ∧ ln ≠ 0 then 15 else if ty = 3 ∧ 2 < ln then 15 else 0
theorem chk_11 {sa : Nat → Addr} {ver ty fl st ln most : Int} (h : (ver != 0) = true) : sv (sa 11) = errv sa (chk ver ty fl st ln most) := by
  unfold chk; rw [if_pos (by simpa using h)]; rfl
theorem chk_12 {sa : Nat → Addr} {ty fl st ln most : Int} (h : 4 ≤ ty) : sv (sa 12) = errv sa (chk 0 ty fl st ln most) := by
  unfold chk; rw [if_neg (by omega), if_pos h]; rfl
theorem chk_13 {sa : Nat → Addr} {ty fl st ln most : Int} {i : Nat} (hi : ty.toNat = i) (h : ty < 4) (h1 : (!hasB (lawL i) fl) = true) : sv (sa 13) = errv sa (chk 0 ty fl st ln most) := by
  unfold chk lawfulB; rw [if_neg (by omega), if_neg (by omega), if_pos (by rw [hi]; simpa using h1)]; rfl
theorem chk_14 {sa : Nat → Addr} {ty fl st ln most : Int} {i : Nat} (hi : ty.toNat = i) (h : ty < 4) (h1 : (!hasB (lawL i) fl) = false) (h2 : (st = 0 ∧ ty < 2) ∨ (st ≠ 0 ∧ 2 ≤ ty)) : sv (sa 14) = errv sa (chk 0 ty fl st ln most) := by
  unfold chk lawfulB; rw [if_neg (by omega), if_neg (by omega), if_neg (by rw [hi]; simp at h1; simp [h1]), if_pos h2]; rfl
theorem chk_t {ty fl st ln most : Int} {i : Nat} (hi : ty.toNat = i) (h : ty < 4) (h1 : (!hasB (lawL i) fl) = false) (h2 : ¬ ((st = 0 ∧ ty < 2) ∨ (st ≠ 0 ∧ 2 ≤ ty))) : chk 0 ty fl st ln most = chkT ty fl ln most := by
  unfold chk lawfulB; rw [if_neg (by omega), if_neg (by omega), if_neg (by rw [hi]; simp at h1; simp [h1]), if_neg h2]; rfl
theorem chk_15 {sa : Nat → Addr} {ty fl st ln most : Int} {i : Nat} (hi : ty.toNat = i) (h : ty < 4) (h1 : (!hasB (lawL i) fl) = false) (h2 : ¬ ((st = 0 ∧ ty < 2) ∨ (st ≠ 0 ∧ 2 ≤ ty))) (h3 : chkT ty fl ln most = 15) : sv (sa 15) = errv sa (chk 0 ty fl st ln most) := by
  rw [chk_t hi h h1 h2, h3]; rfl
theorem chk_0 {sa : Nat → Addr} {ty fl st ln most : Int} {i : Nat} (hi : ty.toNat = i) (h : ty < 4) (h1 : (!hasB (lawL i) fl) = false) (h2 : ¬ ((st = 0 ∧ ty < 2) ∨ (st ≠ 0 ∧ 2 ≤ ty))) (h3 : chkT ty fl ln most = 0) : Value.nilIface = errv sa (chk 0 ty fl st ln most) := by
  rw [chk_t hi h h1 h2, h3]; rfl
theorem max_if (m : Int) : (if m < 0 then 0 else m) = max m 0 := by split <;> omega
theorem bits8 {fl : Int} {i : Nat} (hi : i = 0 ∨ i = 1) (h1 : (!hasB (lawL i) fl) = false) : bits .and .u16 fl 8 = 0 ↔ fl ≠ 8 := by
  have h : fl = 0 ∨ fl = 1 ∨ fl = 2 ∨ fl = 4 ∨ fl = 8 ∨ fl = 5 ∨ fl = 6 := by
    rcases hi with rfl | rfl <;> simp [hasB, lawL] at h1 <;> omega
  rcases h with rfl | rfl | rfl | rfl | rfl | rfl | rfl <;> decide
theorem belowD {B : Nat} {w w' : World} (h : Below B w w') (n : Nat) : Below B w (w'.drewN n) := ⟨h.os, h.tape, h.output, h.size, h.block⟩
theorem ret_val {a b : Value} (h : a = b) : Ending.returned a = .returned b := by rw [h]
theorem ne_of_bool {a b : Int} (h : (a == b) = false) : a ≠ b := by simpa using h
theorem ne_of_not {a b : Int} (h : (!(a == b)) = true) : a ≠ b := by simpa using h
theorem eq_of_not {a b : Int} (h : (!(a == b)) = false) : a = b := by simpa using h
theorem eq_of_bool {a b : Int} (h : (a == b) = true) : a = b := by simpa using h

theorem t_a {fl ln most : Int} (h : max most 0 < ln) : chkT 0 fl ln most = 15 := by unfold chkT; rw [if_pos ⟨rfl, h⟩]
theorem t_0 {ty fl ln most : Int} {i : Nat} (hi : i = 0 ∨ i = 1) (ht : ty ≤ 1) (hb : (!hasB (lawL i) fl) = false) (hm : ty = 0 → ln ≤ max most 0) (q : bits .and .u16 fl 8 = 0) : chkT ty fl ln most = 0 := by
  have h8 := (bits8 hi hb).1 q
  unfold chkT; rw [if_neg (by rintro ⟨h, h'⟩; have := hm h; omega), if_neg (fun h => h8 h.2.1), if_neg (by omega)]
theorem t_15 {ty fl ln most : Int} {i : Nat} (hi : i = 0 ∨ i = 1) (ht : ty ≤ 1) (hb : (!hasB (lawL i) fl) = false) (hm : ty = 0 → ln ≤ max most 0) (r : (bits .and .u16 fl 8 != 0) = true ∧ (ln != 0) = true) : chkT ty fl ln most = 15 := by
  have h8 : fl = 8 := Classical.byContradiction fun h => by
    have := (bits8 hi hb).2 h
    rw [this] at r; simp at r
  unfold chkT; rw [if_neg (by rintro ⟨h, h'⟩; have := hm h; omega), if_pos ⟨ht, h8, by simpa using r.2⟩]
theorem t_00 {ty fl ln most : Int} {i : Nat} (hi : i = 0 ∨ i = 1) (ht : ty ≤ 1) (hb : (!hasB (lawL i) fl) = false) (hm : ty = 0 → ln ≤ max most 0) (r : (bits .and .u16 fl 8 != 0) = false ∨ (ln != 0) = false) : chkT ty fl ln most = 0 := by
  unfold chkT
  rw [if_neg (by rintro ⟨h, h'⟩; have := hm h; omega), if_neg, if_neg (by omega)]
  rintro ⟨-, h, h'⟩
  rcases r with r | r
  · have : bits .and .u16 fl 8 = 0 := by simpa using r
    exact (bits8 hi hb).1 this h
  · exact h' (by simpa using r)
theorem t_2 {fl ln most : Int} : chkT 2 fl ln most = 0 := by unfold chkT; rw [if_neg (by omega), if_neg (by omega), if_neg (by omega)]
theorem t_3 {fl ln most : Int} (h : 2 < ln) : chkT 3 fl ln most = 15 := by unfold chkT; rw [if_neg (by omega), if_neg (by omega), if_pos ⟨rfl, h⟩]
theorem t_30 {fl ln most : Int} (h : ln ≤ 2) : chkT 3 fl ln most = 0 := by unfold chkT; rw [if_neg (by omega), if_neg (by omega), if_neg (by omega)]

set_option maxHeartbeats 1000000 in
theorem check_any {sa : Nat → Addr} {w : World} (hG : Good w sa) (hL : Lawful w) (ver ty fl st ln most : Int) (h1 : 0 ≤ ty) (h2 : ty ≤ 255) (h3 : 0 ≤ ln) (h4 : ln ≤ 4294967295) :
    Calls Tryd.prog 18 #[.agg #[.int .u8 ver, .int .u8 ty, .int .u16 fl, .int .u32 st, .int .u32 ln], .int .i64 most] w fun e w' => e = .returned (errv sa (chk ver ty fl st ln most)) ∧ Below w.heap.size w w' := by
  have HG := Lib.hid hG
  have HL := Lib.hid hL
  have g11 := cell_alloc (hG.at_ 11 (by omega) (by omega)).glob
  have g12 := cell_alloc (hG.at_ 12 (by omega) (by omega)).glob
  have g13 := cell_alloc (hG.at_ 13 (by omega) (by omega)).glob
  have g14 := cell_alloc (hG.at_ 14 (by omega) (by omega)).glob
  have g15 := cell_alloc (hG.at_ 15 (by omega) (by omega)).glob
  simp only [sgb] at g11 g12 g13 g14 g15
  clear hG hL
  by_cases hv : ver = 0
  · subst hv
    have hty : ty = 0 ∨ ty = 1 ∨ ty = 2 ∨ ty = 3 ∨ 4 ≤ ty := by omega
    rcases hty with rfl | rfl | rfl | rfl | hty
    · obtain ⟨a, c, hc1, hc2⟩ := HL.out.at_ 0 (by omega)
      have hl := cell_alloc hc1
      clear hc1
      have HC := Lib.hid hc2
      clear hc2
      go_enter Tryd.func18, Tryd.ntmps18
      go_wp2_with fail
      go_quiet ((go_at_call 48; exact Calls.quiet_of_same (has_any a (lawL 0) c _ _ (by decide) (fun j hj => cell_alloc (HC.out j hj) _))))
      go_wp2
      all_goals go_ret
      all_goals refine ⟨?_, belowD ((Below.refl _ _).alloc (Nat.le_refl _) _) _⟩
      all_goals first
        | (refine ret_val (chk_13 rfl (by omega) ?_); assumption)
        | skip
      all_goals (have hb : (!hasB (lawL 0) fl) = false := by assumption)
      all_goals first
        | (have hs := eq_of_bool (by assumption : (st == 0) = true); exact ret_val (chk_14 rfl (by omega) hb (by omega)))
        | skip
      all_goals (have hs := ne_of_bool (by assumption : (st == 0) = false))
      all_goals (rw [max_if] at *)
      all_goals first
        | (refine ret_val (chk_15 rfl (by omega) hb (by omega) (t_a ?_)); assumption)
        | (refine ret_val (chk_0 rfl (by omega) hb (by omega) (t_0 (.inl rfl) (by omega) hb (by omega) ?_)); assumption)
        | (refine ret_val (chk_15 rfl (by omega) hb (by omega) (t_15 (.inl rfl) (by omega) hb (by omega) ?_)); assumption)
        | (refine ret_val (chk_0 rfl (by omega) hb (by omega) (t_00 (.inl rfl) (by omega) hb (by omega) ?_)); assumption)
    · obtain ⟨a, c, hc1, hc2⟩ := HL.out.at_ 1 (by omega)
      have hl := cell_alloc hc1
      clear hc1
      have HC := Lib.hid hc2
      clear hc2
      go_enter Tryd.func18, Tryd.ntmps18
      go_wp2_with fail
      go_quiet ((go_at_call 48; exact Calls.quiet_of_same (has_any a (lawL 1) c _ _ (by decide) (fun j hj => cell_alloc (HC.out j hj) _))))
      go_wp2
      all_goals go_ret
      all_goals refine ⟨?_, belowD ((Below.refl _ _).alloc (Nat.le_refl _) _) _⟩
      all_goals first
        | (refine ret_val (chk_13 rfl (by omega) ?_); assumption)
        | skip
      all_goals (have hb : (!hasB (lawL 1) fl) = false := by assumption)
      all_goals first
        | (have hs := eq_of_bool (by assumption : (st == 0) = true); exact ret_val (chk_14 rfl (by omega) hb (by omega)))
        | skip
      all_goals (have hs := ne_of_bool (by assumption : (st == 0) = false))
      all_goals first
        | (refine ret_val (chk_0 rfl (by omega) hb (by omega) (t_0 (.inr rfl) (by omega) hb (by omega) ?_)); assumption)
        | (refine ret_val (chk_15 rfl (by omega) hb (by omega) (t_15 (.inr rfl) (by omega) hb (by omega) ?_)); assumption)
        | (refine ret_val (chk_0 rfl (by omega) hb (by omega) (t_00 (.inr rfl) (by omega) hb (by omega) ?_)); assumption)
    · obtain ⟨a, c, hc1, hc2⟩ := HL.out.at_ 2 (by omega)
      have hl := cell_alloc hc1
      clear hc1
      have HC := Lib.hid hc2
      clear hc2
      go_enter Tryd.func18, Tryd.ntmps18
      go_wp2_with fail
      go_quiet ((go_at_call 48; exact Calls.quiet_of_same (has_any a (lawL 2) c _ _ (by decide) (fun j hj => cell_alloc (HC.out j hj) _))))
      go_wp2
      all_goals go_ret
      all_goals refine ⟨?_, belowD ((Below.refl _ _).alloc (Nat.le_refl _) _) _⟩
      all_goals first
        | (refine ret_val (chk_13 rfl (by omega) ?_); assumption)
        | skip
      all_goals (have hb : (!hasB (lawL 2) fl) = false := by assumption)
      all_goals first
        | (have hs := ne_of_not (by assumption : (!(st == 0)) = true); exact ret_val (chk_14 rfl (by omega) hb (by omega)))
        | skip
      all_goals (have hs := eq_of_not (by assumption : (!(st == 0)) = false))
      exact ret_val (chk_0 rfl (by omega) hb (by omega) t_2)
    · obtain ⟨a, c, hc1, hc2⟩ := HL.out.at_ 3 (by omega)
      have hl := cell_alloc hc1
      clear hc1
      have HC := Lib.hid hc2
      clear hc2
      go_enter Tryd.func18, Tryd.ntmps18
      go_wp2_with fail
      go_quiet ((go_at_call 48; exact Calls.quiet_of_same (has_any a (lawL 3) c _ _ (by decide) (fun j hj => cell_alloc (HC.out j hj) _))))
      go_wp2
      all_goals go_ret
      all_goals refine ⟨?_, belowD ((Below.refl _ _).alloc (Nat.le_refl _) _) _⟩
      all_goals first
        | (refine ret_val (chk_13 rfl (by omega) ?_); assumption)
        | skip
      all_goals (have hb : (!hasB (lawL 3) fl) = false := by assumption)
      all_goals first
        | (have hs := ne_of_not (by assumption : (!(st == 0)) = true); exact ret_val (chk_14 rfl (by omega) hb (by omega)))
        | skip
      all_goals (have hs := eq_of_not (by assumption : (!(st == 0)) = false))
      all_goals first
        | (refine ret_val (chk_15 rfl (by omega) hb (by omega) (t_3 ?_)); assumption)
        | (refine ret_val (chk_0 rfl (by omega) hb (by omega) (t_30 ?_)); omega)
    · go_enter Tryd.func18, Tryd.ntmps18
      go_wp2
      go_ret
      exact ⟨ret_val (chk_12 hty), (Below.refl _ _).alloc (Nat.le_refl _) _⟩
  · go_enter Tryd.func18, Tryd.ntmps18
    go_wp2
    go_ret
    exact ⟨ret_val (chk_11 (by assumption)), (Below.refl _ _).alloc (Nat.le_refl _) _⟩
end Go.Proofs.YtfddhipdedcacaaDoor
