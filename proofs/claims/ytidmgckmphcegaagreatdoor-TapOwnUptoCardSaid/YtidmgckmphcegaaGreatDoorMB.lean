import Derived.Test.YtidmgckmphcegaaGreatDoorMA
import Derived.Deep.QuietTactic
import Derived.BigQuiet
import Derived.WalkSpells
import Derived.Deep.RegionHeld3
import Derived.OpenShut
import Derived.LaidMore
import Derived.LaidSub
import Derived.Laws.AppendOwnNone
import Derived.Lib.Hide
import Derived.Lib.LazyBuf
import Derived.Test.YtidmgckmphcegaaGreatDoorMW
import Derived.StillTailTactics
import Derived.SizedLaws
import Derived.ChangeSlices
import Derived.LaidHandle
/-
 frame.Check and the reference's Check.
-/
namespace Go.Proofs.YtidmgckmphcegaaGreatDoor
open Go.RowKit
set_option linter.unusedVariables false
def lawL : Nat → List Int
 | 0 => [0, 1, 2, 4, 8, 5, 6]
 | 1 => [0, 1, 2, 4, 8, 5, 6]
 | 2 => [1, 2]
 | 3 => [0]
 | _ => []
def hasB (l : List Int) (x : Int) : Bool := l.contains x
theorem hasB_hit {l : List Int} {x : Int} {k : Nat} (hk : k < l.length) (h : (l[k] == x) = true) : hasB l x = true := by
 unfold hasB
 have : l[k] = x := by simpa using h
 rw [List.contains_iff_mem, ← this]
 exact List.getElem_mem hk
theorem hasB_step {l : List Int} {x : Int} {k : Nat} (hk : k < l.length) (h : (l[k] == x) = false) (hn : hasB (l.take k) x = false) : hasB (l.take (k + 1)) x = false := by
 unfold hasB at *
 rw [List.take_succ_eq_append_getElem hk, List.contains_eq_mem] at *
 simp only [decide_eq_false_iff_not] at hn
 have h' : ¬ l[k] = x := by simpa using h
 simp only [List.mem_append, List.mem_singleton, decide_eq_false_iff_not, not_or]
 exact ⟨hn, fun e => h' e.symm⟩
theorem has_any (a : Addr) (l : List Int) (c : Nat) (x : Int) (w : World) (hl : l.length ≤ 100) (hc : ∀ j, j < l.length → w.cell? (a.add j) = some (.int .u16 (l.getD j 0))) :
    Calls Tryz.prog 67 #[.slice (some a) l.length c, .int .u16 x] w fun e w' => e = .returned (.bool (hasB l x)) ∧ w' = w := by
 go_enter Tryz.func67, Tryz.ntmps67
 go_wp2_with fail
 go_loop [9] (fun i => ∃ k : Nat, k ≤ l.length ∧ i = .int .i64 k ∧ hasB (l.take k) x = false) (fun i => l.length - (intOf i).toNat)
 case atStart => exact ⟨0, by omega, rfl, by simp [hasB]⟩
 case round =>
  obtain ⟨k, hk, rfl, hno⟩ := hrel
  have HN := Lib.hid hno
  clear hno
  by_cases hlt : k < l.length
  · have hck := hc k hlt
    have HC := Lib.hid hc
    clear hc
    go_wp2
    · have h := hasB_hit hlt (by assumption)
      go_ret
      exact ⟨ret_bool h.symm, rfl⟩
    · have h := hasB_step hlt (by assumption) HN.out
      go_round
      case rel => exact ⟨k + 1, by omega, by go_num, h⟩
      case measure => simp [intOf]; omega
  · obtain rfl : k = l.length := by omega
    go_wp2
    go_ret
    exact ⟨ret_bool (by rw [← HN.out, List.take_length]), rfl⟩
def lawfulB (ty fl : Int) : Bool := hasB (lawL ty.toNat) fl
def chk (ver ty fl st ln most : Int) : Nat :=
 if ver ≠ 0 then 11 else if 4 ≤ ty then 12 else if lawfulB ty fl = false then 13 else
 if (st = 0 ∧ ty < 2) ∨ (st ≠ 0 ∧ 2 ≤ ty) then 14 else
 if ty = 0 ∧ max most 0 < ln then 15 else if ty ≤ 1 ∧ fl = 8 ∧ ln ≠ 0 then 15 else if ty = 3 ∧ 2 < ln then 15 else 0
structure Lawful (w : World) : Prop where
 at_ : ∀ i, i < 4 → ∃ a c, w.cell? ⟨5, i, none⟩ = some (.slice (some a) (lawL i).length c) ∧ (∀ j, j < (lawL i).length → w.cell? (a.add j) = some (.int .u16 ((lawL i).getD j 0)))
theorem Lawful.below {w w' : World} (h : Lawful w) (hb : Below w.heap.size w w') : Lawful w' := by
 refine ⟨fun i hi => ?_⟩
 obtain ⟨a, c, h1, h2⟩ := h.at_ i hi
 exact ⟨a, c, (hb.cell (World.block_lt_of_cell? w _ h1)).trans h1, fun j hj => (hb.cell (World.block_lt_of_cell? w _ (h2 j hj))).trans (h2 j hj)⟩
def errv (sa : Nat → Addr) (c : Nat) : Value := if c = 0 then .nilIface else sv (sa c)
theorem cell_alloc {w : World} {a : Addr} {v : Value} (h : w.cell? a = some v) : ∀ o : Obj, (w.alloc o).cell? a = some v := fun o => cell?_alloc_old o h
def chkT (ty fl ln most : Int) : Nat := if ty = 0 ∧ max most 0 < ln then 15 else if ty ≤ 1 ∧ fl = 8 ∧ ln ≠ 0 then 15 else if ty = 3 ∧ 2 < ln then 15 else 0
theorem chk_11 {sa : Nat → Addr} {ver ty fl st ln most : Int} (h : (ver != 0) = true) : sv (sa 11) = errv sa (chk ver ty fl st ln most) := by
 unfold chk; rw [if_pos (by simpa using h)]; rfl
theorem chk_12 {sa : Nat → Addr} {ty fl st ln most : Int} (h : 4 ≤ ty) : sv (sa 12) = errv sa (chk 0 ty fl st ln most) := by
 unfold chk; rw [if_neg (by omega), if_pos h]; rfl
theorem chk_13 {sa : Nat → Addr} {ty fl st ln most : Int} {i : Nat} (hi : ty.toNat = i) (h : ty < 4) (h1 : (!hasB (lawL i) fl) = true) : sv (sa 13) = errv sa (chk 0 ty fl st ln most) := by
 unfold chk lawfulB; rw [if_neg (by omega), if_neg (by omega), if_pos (by rw [hi]; simpa using h1)]; rfl
theorem chk_14 {sa : Nat → Addr} {ty fl st ln most : Int} {i : Nat} (hi : ty.toNat = i) (h : ty < 4) (h1 : (!hasB (lawL i) fl) = false) (h2 : (st = 0 ∧ ty < 2) ∨ (st ≠ 0 ∧ 2 ≤ ty)) : sv (sa 14) = errv sa (chk 0 ty fl st ln most) := by
 unfold chk lawfulB; rw [if_neg (by omega), if_neg (by omega), if_neg (by rw [hi]; simp at h1; simp [h1]), if_pos h2]; rfl
theorem chk_t {ty fl st ln most : Int} {i : Nat} (hi : ty.toNat = i) (h : ty < 4) (h1 : (!hasB (lawL i) fl) = false) (h2 : ¬ ((st = 0 ∧ ty < 2) ∨ (st ≠ 0 ∧ 2 ≤ ty))) : chk 0 ty fl st ln most = chkT ty fl ln most := by
 unfold chk lawfulB; rw [if_neg (by omega), if_neg (by omega), if_neg (by rw [hi]; simp at h1; simp [h1]), if_neg h2]; rfl
theorem chk_15 {sa : Nat → Addr} {ty fl st ln most : Int} {i : Nat} (hi : ty.toNat = i) (h : ty < 4) (h1 : (!hasB (lawL i) fl) = false) (h2 : ¬ ((st = 0 ∧ ty < 2) ∨ (st ≠ 0 ∧ 2 ≤ ty))) (h3 : chkT ty fl ln most = 15) : sv (sa 15) = errv sa (chk 0 ty fl st ln most) := by
 rw [chk_t hi h h1 h2, h3]; rfl
theorem chk_0 {sa : Nat → Addr} {ty fl st ln most : Int} {i : Nat} (hi : ty.toNat = i) (h : ty < 4) (h1 : (!hasB (lawL i) fl) = false) (h2 : ¬ ((st = 0 ∧ ty < 2) ∨ (st ≠ 0 ∧ 2 ≤ ty))) (h3 : chkT ty fl ln most = 0) : Value.nilIface = errv sa (chk 0 ty fl st ln most) := by
 rw [chk_t hi h h1 h2, h3]; rfl
theorem max_if (m : Int) : (if m < 0 then 0 else m) = max m 0 := by split <;> omega
theorem bits8 {fl : Int} {i : Nat} (hi : i = 0 ∨ i = 1) (h1 : (!hasB (lawL i) fl) = false) : bits .and .u16 fl 8 = 0 ↔ fl ≠ 8 := by
 have h : fl = 0 ∨ fl = 1 ∨ fl = 2 ∨ fl = 4 ∨ fl = 8 ∨ fl = 5 ∨ fl = 6 := by
  rcases hi with rfl | rfl <;> simp [hasB, lawL] at h1 <;> omega
 rcases h with rfl | rfl | rfl | rfl | rfl | rfl | rfl <;> decide
theorem belowD {B : Nat} {w w' : World} (h : Below B w w') (n : Nat) : Below B w (w'.drewN n) := ⟨h.os, h.tape, h.output, h.size, h.block⟩
theorem ret_val {a b : Value} (h : a = b) : Ending.returned a = .returned b := by rw [h]
theorem ne_of_bool {a b : Int} (h : (a == b) = false) : a ≠ b := by simpa using h
theorem ne_of_not {a b : Int} (h : (!(a == b)) = true) : a ≠ b := by simpa using h
theorem eq_of_not {a b : Int} (h : (!(a == b)) = false) : a = b := by simpa using h
theorem eq_of_bool {a b : Int} (h : (a == b) = true) : a = b := by simpa using h
theorem t_a {fl ln most : Int} (h : max most 0 < ln) : chkT 0 fl ln most = 15 := by unfold chkT; rw [if_pos ⟨rfl, h⟩]
theorem t_0 {ty fl ln most : Int} {i : Nat} (hi : i = 0 ∨ i = 1) (ht : ty ≤ 1) (hb : (!hasB (lawL i) fl) = false) (hm : ty = 0 → ln ≤ max most 0) (q : bits .and .u16 fl 8 = 0) : chkT ty fl ln most = 0 := by
 have h8 := (bits8 hi hb).1 q
 unfold chkT; rw [if_neg (by rintro ⟨h, h'⟩; have := hm h; omega), if_neg (fun h => h8 h.2.1), if_neg (by omega)]
theorem t_15 {ty fl ln most : Int} {i : Nat} (hi : i = 0 ∨ i = 1) (ht : ty ≤ 1) (hb : (!hasB (lawL i) fl) = false) (hm : ty = 0 → ln ≤ max most 0) (r : (bits .and .u16 fl 8 != 0) = true ∧ (ln != 0) = true) : chkT ty fl ln most = 15 := by
 have h8 : fl = 8 := Classical.byContradiction fun h => by
  have := (bits8 hi hb).2 h
  rw [this] at r; simp at r
 unfold chkT; rw [if_neg (by rintro ⟨h, h'⟩; have := hm h; omega), if_pos ⟨ht, h8, by simpa using r.2⟩]
theorem t_00 {ty fl ln most : Int} {i : Nat} (hi : i = 0 ∨ i = 1) (ht : ty ≤ 1) (hb : (!hasB (lawL i) fl) = false) (hm : ty = 0 → ln ≤ max most 0) (r : (bits .and .u16 fl 8 != 0) = false ∨ (ln != 0) = false) : chkT ty fl ln most = 0 := by
 unfold chkT
 rw [if_neg (by rintro ⟨h, h'⟩; have := hm h; omega), if_neg, if_neg (by omega)]
 rintro ⟨-, h, h'⟩
 rcases r with r | r
 · have : bits .and .u16 fl 8 = 0 := by simpa using r
   exact (bits8 hi hb).1 this h
 · exact h' (by simpa using r)
theorem t_2 {fl ln most : Int} : chkT 2 fl ln most = 0 := by unfold chkT; rw [if_neg (by omega), if_neg (by omega), if_neg (by omega)]
theorem t_3 {fl ln most : Int} (h : 2 < ln) : chkT 3 fl ln most = 15 := by unfold chkT; rw [if_neg (by omega), if_neg (by omega), if_pos ⟨rfl, h⟩]
theorem t_30 {fl ln most : Int} (h : ln ≤ 2) : chkT 3 fl ln most = 0 := by unfold chkT; rw [if_neg (by omega), if_neg (by omega), if_neg (by omega)]
set_option maxHeartbeats 1000000 in
theorem check_any {sa : Nat → Addr} {w : World} (hG : Good w sa) (hL : Lawful w) (ver ty fl st ln most : Int) (h1 : 0 ≤ ty) (h2 : ty ≤ 255) (h3 : 0 ≤ ln) (h4 : ln ≤ 4294967295) :
    Calls Tryz.prog 26 #[.agg #[.int .u8 ver, .int .u8 ty, .int .u16 fl, .int .u32 st, .int .u32 ln], .int .i64 most] w fun e w' => e = .returned (errv sa (chk ver ty fl st ln most)) ∧ Below w.heap.size w w' := by
 have HG := Lib.hid hG
 have HL := Lib.hid hL
 have g11 := cell_alloc (hG.at_ 11 (by omega) (by omega)).glob
 have g12 := cell_alloc (hG.at_ 12 (by omega) (by omega)).glob
 have g13 := cell_alloc (hG.at_ 13 (by omega) (by omega)).glob
 have g14 := cell_alloc (hG.at_ 14 (by omega) (by omega)).glob
 have g15 := cell_alloc (hG.at_ 15 (by omega) (by omega)).glob
 simp only [sgb] at g11 g12 g13 g14 g15
 clear hG hL
 by_cases hv : ver = 0
 · subst hv
   have hty : ty = 0 ∨ ty = 1 ∨ ty = 2 ∨ ty = 3 ∨ 4 ≤ ty := by omega
   rcases hty with rfl | rfl | rfl | rfl | hty
   · obtain ⟨a, c, hc1, hc2⟩ := HL.out.at_ 0 (by omega)
     have hl := cell_alloc hc1
     clear hc1
     have HC := Lib.hid hc2
     clear hc2
     go_enter Tryz.func26, Tryz.ntmps26
     go_wp2_with fail
     go_quiet ((go_at_call 67; exact Calls.quiet_of_same (has_any a (lawL 0) c _ _ (by decide) (fun j hj => cell_alloc (HC.out j hj) _))))
     go_wp2
     all_goals go_ret
     all_goals refine ⟨?_, belowD ((Below.refl _ _).alloc (Nat.le_refl _) _) _⟩
     all_goals first
      | (refine ret_val (chk_13 rfl (by omega) ?_); assumption)
      | skip
     all_goals (have hb : (!hasB (lawL 0) fl) = false := by assumption)
     all_goals first
      | (have hs := eq_of_bool (by assumption : (st == 0) = true); exact ret_val (chk_14 rfl (by omega) hb (by omega)))
      | skip
     all_goals (have hs := ne_of_bool (by assumption : (st == 0) = false))
     all_goals (rw [max_if] at *)
     all_goals first
      | (refine ret_val (chk_15 rfl (by omega) hb (by omega) (t_a ?_)); assumption)
      | (refine ret_val (chk_0 rfl (by omega) hb (by omega) (t_0 (.inl rfl) (by omega) hb (by omega) ?_)); assumption)
      | (refine ret_val (chk_15 rfl (by omega) hb (by omega) (t_15 (.inl rfl) (by omega) hb (by omega) ?_)); assumption)
      | (refine ret_val (chk_0 rfl (by omega) hb (by omega) (t_00 (.inl rfl) (by omega) hb (by omega) ?_)); assumption)
   · obtain ⟨a, c, hc1, hc2⟩ := HL.out.at_ 1 (by omega)
     have hl := cell_alloc hc1
     clear hc1
     have HC := Lib.hid hc2
     clear hc2
     go_enter Tryz.func26, Tryz.ntmps26
     go_wp2_with fail
     go_quiet ((go_at_call 67; exact Calls.quiet_of_same (has_any a (lawL 1) c _ _ (by decide) (fun j hj => cell_alloc (HC.out j hj) _))))
     go_wp2
     all_goals go_ret
     all_goals refine ⟨?_, belowD ((Below.refl _ _).alloc (Nat.le_refl _) _) _⟩
     all_goals first
      | (refine ret_val (chk_13 rfl (by omega) ?_); assumption)
      | skip
     all_goals (have hb : (!hasB (lawL 1) fl) = false := by assumption)
     all_goals first
      | (have hs := eq_of_bool (by assumption : (st == 0) = true); exact ret_val (chk_14 rfl (by omega) hb (by omega)))
      | skip
     all_goals (have hs := ne_of_bool (by assumption : (st == 0) = false))
     all_goals first
      | (refine ret_val (chk_0 rfl (by omega) hb (by omega) (t_0 (.inr rfl) (by omega) hb (by omega) ?_)); assumption)
      | (refine ret_val (chk_15 rfl (by omega) hb (by omega) (t_15 (.inr rfl) (by omega) hb (by omega) ?_)); assumption)
      | (refine ret_val (chk_0 rfl (by omega) hb (by omega) (t_00 (.inr rfl) (by omega) hb (by omega) ?_)); assumption)
   · obtain ⟨a, c, hc1, hc2⟩ := HL.out.at_ 2 (by omega)
     have hl := cell_alloc hc1
     clear hc1
     have HC := Lib.hid hc2
     clear hc2
     go_enter Tryz.func26, Tryz.ntmps26
     go_wp2_with fail
     go_quiet ((go_at_call 67; exact Calls.quiet_of_same (has_any a (lawL 2) c _ _ (by decide) (fun j hj => cell_alloc (HC.out j hj) _))))
     go_wp2
     all_goals go_ret
     all_goals refine ⟨?_, belowD ((Below.refl _ _).alloc (Nat.le_refl _) _) _⟩
     all_goals first
      | (refine ret_val (chk_13 rfl (by omega) ?_); assumption)
      | skip
     all_goals (have hb : (!hasB (lawL 2) fl) = false := by assumption)
     all_goals first
      | (have hs := ne_of_not (by assumption : (!(st == 0)) = true); exact ret_val (chk_14 rfl (by omega) hb (by omega)))
      | skip
     all_goals (have hs := eq_of_not (by assumption : (!(st == 0)) = false))
     exact ret_val (chk_0 rfl (by omega) hb (by omega) t_2)
   · obtain ⟨a, c, hc1, hc2⟩ := HL.out.at_ 3 (by omega)
     have hl := cell_alloc hc1
     clear hc1
     have HC := Lib.hid hc2
     clear hc2
     go_enter Tryz.func26, Tryz.ntmps26
     go_wp2_with fail
     go_quiet ((go_at_call 67; exact Calls.quiet_of_same (has_any a (lawL 3) c _ _ (by decide) (fun j hj => cell_alloc (HC.out j hj) _))))
     go_wp2
     all_goals go_ret
     all_goals refine ⟨?_, belowD ((Below.refl _ _).alloc (Nat.le_refl _) _) _⟩
     all_goals first
      | (refine ret_val (chk_13 rfl (by omega) ?_); assumption)
      | skip
     all_goals (have hb : (!hasB (lawL 3) fl) = false := by assumption)
     all_goals first
      | (have hs := ne_of_not (by assumption : (!(st == 0)) = true); exact ret_val (chk_14 rfl (by omega) hb (by omega)))
      | skip
     all_goals (have hs := eq_of_not (by assumption : (!(st == 0)) = false))
     all_goals first
      | (refine ret_val (chk_15 rfl (by omega) hb (by omega) (t_3 ?_)); assumption)
      | (refine ret_val (chk_0 rfl (by omega) hb (by omega) (t_30 ?_)); omega)
   · go_enter Tryz.func26, Tryz.ntmps26
     go_wp2
     go_ret
     exact ⟨ret_val (chk_12 hty), (Below.refl _ _).alloc (Nat.le_refl _) _⟩
 · go_enter Tryz.func26, Tryz.ntmps26
   go_wp2
   go_ret
   exact ⟨ret_val (chk_11 (by assumption)), (Below.refl _ _).alloc (Nat.le_refl _) _⟩
end Go.Proofs.YtidmgckmphcegaaGreatDoor
/-
 The reference's Check.
-/
namespace Go.Proofs.YtidmgckmphcegaaGreatDoor
open Go.RowKit
set_option linter.unusedVariables false
set_option linter.unusedSimpArgs false
end Go.Proofs.YtidmgckmphcegaaGreatDoor
/-
 frame.Encode and frame.Decode.
-/
namespace Go.Proofs.YtidmgckmphcegaaGreatDoor
open Go.RowKit
set_option linter.unusedVariables false
set_option linter.unusedSimpArgs false
abbrev hdr (ver ty fl st ln : Int) : Value := .agg #[.int .u8 ver, .int .u8 ty, .int .u16 fl, .int .u32 st, .int .u32 ln]
def enc (ver ty fl st ln : Int) : List Int := [ver, ty, fl / 256, fl % 256, st / 16777216, st / 65536 % 256, st / 256 % 256, st % 256, ln / 16777216, ln / 65536 % 256, ln / 256 % 256, ln % 256]
theorem blk_old {w : World} {k : Nat} (o : Obj) (h : k < w.heap.size) : (w.alloc o).heap[k]? = w.heap[k]? := Below.heap_alloc _ _ _ h
theorem cell_blk {w : World} {g j : Nat} {cs : Array Value} {t : TypeId} {fz : Nat × Nat} {v : Value} (h : w.heap[g]? = some (.cells cs t fz)) (hj : cs[j]? = some v) : w.cell? ⟨g, j, none⟩ = some v := by
 unfold World.cell?
 simp [h, hj]
theorem grown_blk {w w' : World} {row : Option Nat} {g : Nat} {o : Obj} (hg : w.grownBy w' row) (hne : row ≠ some g) (h : w.heap[g]? = some o) : w'.heap[g]? = some o :=
 (hg.block g (Array.getElem?_eq_some_iff.1 h).1 (fun e => hne e.symm)).trans h
theorem free_blk {w : World} {g j : Nat} {cs : Array Value} {t : TypeId} (h : w.heap[g]? = some (.cells cs t (0, 0))) : w.frozen? ⟨g, j, none⟩ = false := by
 unfold World.frozen?
 simp [h]
theorem set_blk {w : World} {g j : Nat} {cs : Array Value} {t : TypeId} {fz : Nat × Nat} (v : Value) (h : w.heap[g]? = some (.cells cs t fz)) : (w.setCell ⟨g, j, none⟩ v).heap[g]? = some (.cells (cs.setIfInBounds j v) t fz) := by
 simp [World.setCell, Array.getElem?_modify, h]
def encW (ver ty fl st ln : Int) (w : World) : World :=
 ((w.alloc (.cells #[.int .u8 ver, .int .u8 ty, .int .u16 fl, .int .u32 st, .int .u32 ln] 25)).alloc
   (.cells #[.int .u8 ver, .int .u8 ty, .int .u8 0, .int .u8 0, .int .u8 0, .int .u8 0, .int .u8 0, .int .u8 0, .int .u8 0, .int .u8 0, .int .u8 0, .int .u8 0] 5)).alloc (.cells #[.int .u8 ver, .int .u8 ty] 5)
theorem encW_size (ver ty fl st ln : Int) (w : World) : (encW ver ty fl st ln w).heap.size = w.heap.size + 3 := by simp [encW]
theorem encW_head (ver ty fl st ln : Int) (w : World) : (encW ver ty fl st ln w).heap[w.heap.size]? = some (.cells #[.int .u8 ver, .int .u8 ty, .int .u16 fl, .int .u32 st, .int .u32 ln] 25 (0, 0)) := by
 unfold encW
 rw [blk_old _ (by simp; omega), blk_old _ (by simp), alloc_at]
theorem encW_row (ver ty fl st ln : Int) (w : World) : (encW ver ty fl st ln w).heap[w.heap.size + 1]? = some (.cells #[.int .u8 ver, .int .u8 ty, .int .u8 0, .int .u8 0, .int .u8 0, .int .u8 0, .int .u8 0, .int .u8 0, .int .u8 0, .int .u8 0, .int .u8 0, .int .u8 0] 5 (0, 0)) := by
 unfold encW
 rw [blk_old _ (by simp)]
 have := alloc_at (w.alloc (.cells #[.int .u8 ver, .int .u8 ty, .int .u16 fl, .int .u32 st, .int .u32 ln] 25)) (.cells #[.int .u8 ver, .int .u8 ty, .int .u8 0, .int .u8 0, .int .u8 0, .int .u8 0, .int .u8 0, .int .u8 0, .int .u8 0, .int .u8 0, .int .u8 0, .int .u8 0] 5)
 simpa using this
theorem encW_below (ver ty fl st ln : Int) (w : World) : Below w.heap.size w (encW ver ty fl st ln w) :=
 (((Below.refl _ _).alloc (Nat.le_refl _) _).alloc (by simp) _).alloc (by simp; omega) _
theorem encW_own (ver ty fl st ln : Int) (w : World) : (encW ver ty fl st ln w).ownsRow w.heap.size 5 1 (.slice (some ⟨w.heap.size + 1, 0, none⟩) 2 12) 2 (nums .u8 [ver, ty]) :=
 ⟨rfl, .inr ⟨_, 12, _, rfl, by omega, encW_row ver ty fl st ln w, by omega, by unfold maxLen; omega, rfl, rfl⟩⟩
theorem own_below {w w1 : World} {base : Nat} {e : TypeId} {size n : Nat} {v : Value} {xs : List Value} (h : w.ownsRow base e size v n xs) (hb : Below w.heap.size w w1) : w1.ownsRow base e size v n xs :=
 h.kept (row := none) ⟨hb.os, hb.tape, hb.output, hb.size, fun i hi _ => hb.block i hi⟩ (by cases v.ownBlock <;> simp)
theorem nums_one (k : IntKind) (xs : List Int) : ∀ u ∈ nums k xs, u.oneCell' = true := by
 intro u hu
 obtain ⟨_, _, rfl⟩ := List.mem_map.1 hu
 rfl
theorem row_cells {w : World} {base : Nat} {e : TypeId} {g n c : Nat} {xs : List Value} (h : w.ownsRow base e 1 (.slice (some ⟨g, 0, none⟩) n c) n xs) : ∀ j u, xs[j]? = some u → w.cell? ((⟨g, 0, none⟩ : Addr).add j) = some u := by
 intro j u hu
 have hj : j < n * 1 := by
  have := (List.getElem?_eq_some_iff.1 hu).1
  have := h.1
  omega
 rw [Addr.add_lit, Nat.zero_add, h.cellAt j hj, hu]
set_option maxRecDepth 100000 in
theorem encode_any (ver ty fl st ln : Int) (w : World) (f0 : 0 ≤ fl) (f1 : fl ≤ 65535) (s0 : 0 ≤ st) (s1 : st ≤ 4294967295) (l0 : 0 ≤ ln) (l1 : ln ≤ 4294967295) :
    Calls Tryz.prog 66 #[hdr ver ty fl st ln] w fun e w' => ∃ g, e = .returned (.slice (some ⟨g, 0, none⟩) 12 12) ∧ w'.ownsRow w.heap.size 5 1 (.slice (some ⟨g, 0, none⟩) 12 12) 12 (nums .u8 (enc ver ty fl st ln)) ∧ Below w.heap.size w w' := by
 have hmk : ∀ w : World, (Instr.makeSlice 26 (.int .i64 0) (.int .i64 12)).run Tryz.prog w = .ok (.slice (some ⟨w.heap.size, 0, none⟩) 0 12) (w.alloc (.cells #[.int .u8 0, .int .u8 0, .int .u8 0, .int .u8 0, .int .u8 0, .int .u8 0, .int .u8 0, .int .u8 0, .int .u8 0, .int .u8 0, .int .u8 0, .int .u8 0] 5)) := fun _ => by kernel_rfl
 obtain ⟨i0, hi, hz0, hz1, hz2⟩ := info_parts u8_info
 go_enter Tryz.func66, Tryz.ntmps66
 go_wp2_with fail
 change Calls _ _ _ (encW ver ty fl st ln w) _
 refine (bytes16_any fl _ f0 f1).mono ?_
 rintro e w1 ⟨g1, rfl, ho1, hb1⟩
 have hsz := encW_size ver ty fl st ln w
 have hH1 := (hb1.block w.heap.size (by omega)).trans (encW_head ver ty fl st ln w)
 have hO1 := own_below (encW_own ver ty fl st ln w) hb1
 have hB1 := (encW_below ver ty fl st ln w).trans (hb1.mono (by omega))
 have hZ1 : w.heap.size + 3 ≤ w1.heap.size := by have := hb1.size; omega
 have e1 : w1.cell? ⟨w.heap.size, 3, none⟩ = some (.int .u32 st) := cell_blk hH1 rfl
 have HH1 := Lib.hid hH1
 have HO1 := Lib.hid hO1
 have HB1 := Lib.hid hB1
 have Ho1 := Lib.hid ho1
 clear hH1 hO1 hB1 ho1 hb1 hsz
 go_wp2_with (at_builtin; refine wpList_append_fits _ rfl _ _ 26 rfl w.heap.size 5 i0 1 Tryz.underlying26 hi hz1 (w.heap.size + 1) 2 12 _ rfl HO1.out ⟨g1, 0, none⟩ 2 2 (nums .u8 [fl / 256, fl % 256]) rfl rfl (row_cells Ho1.out) (nums_one _ _) (by omega) ?_; intro w2 ho2 hg2; have hH2 := grown_blk hg2 (by simp) HH1.out; have e2 : w2.cell? ⟨w.heap.size, 3, none⟩ = some (.int .u32 st) := cell_blk hH2 rfl; have HH2 := Lib.hid hH2; have HO2 := Lib.hid ho2; have HG2 := Lib.hid hg2; clear hH2 ho2 hg2)
 have HB2 := Lib.hid (HB1.out.grown HG2.out (by omega) (fun k hk => by cases hk; omega))
 have hZ2 : w.heap.size + 3 ≤ w2.heap.size := by have := HG2.out.size; omega
 refine (bytes32_any st _ s0 s1).mono ?_
 rintro e w3 ⟨g3, rfl, ho3, hb3⟩
 have hH3 := (hb3.block w.heap.size (by omega)).trans HH2.out
 have hO3 : w3.ownsRow w.heap.size 5 1 (.slice (some ⟨w.heap.size + 1, 0, none⟩) 4 12) 4 (nums .u8 [ver, ty, fl / 256, fl % 256]) := own_below HO2.out hb3
 have HB3 := Lib.hid (HB2.out.trans (hb3.mono (by omega)))
 have hZ3 : w.heap.size + 3 ≤ w3.heap.size := by have := hb3.size; omega
 have HH3 := Lib.hid hH3
 have HO3 := Lib.hid hO3
 have Ho3 := Lib.hid ho3
 clear hH3 hO3 ho3 hb3 e1 e2
 go_wp2_with (at_builtin; refine wpList_append_fits _ rfl _ _ 26 rfl w.heap.size 5 i0 1 Tryz.underlying26 hi hz1 (w.heap.size + 1) 4 12 _ rfl HO3.out ⟨g3, 0, none⟩ 4 4 (nums .u8 [st / 16777216, st / 65536 % 256, st / 256 % 256, st % 256]) rfl rfl (row_cells Ho3.out) (nums_one _ _) (by omega) ?_; intro w4 ho4 hg4; have hH4 := grown_blk hg4 (by simp) HH3.out; have e4 : w4.cell? ⟨w.heap.size, 4, none⟩ = some (.int .u32 ln) := cell_blk hH4 rfl; have HO4 := Lib.hid ho4; have HG4 := Lib.hid hg4; clear hH4 ho4 hg4)
 have HB4 := Lib.hid (HB3.out.grown HG4.out (by omega) (fun k hk => by cases hk; omega))
 have hZ4 : w.heap.size + 3 ≤ w4.heap.size := by have := HG4.out.size; omega
 refine (bytes32_any ln _ l0 l1).mono ?_
 rintro e w5 ⟨g5, rfl, ho5, hb5⟩
 have hO5 : w5.ownsRow w.heap.size 5 1 (.slice (some ⟨w.heap.size + 1, 0, none⟩) 8 12) 8 (nums .u8 [ver, ty, fl / 256, fl % 256, st / 16777216, st / 65536 % 256, st / 256 % 256, st % 256]) := own_below HO4.out hb5
 have HB5 := Lib.hid (HB4.out.trans (hb5.mono (by omega)))
 have hZ5 : w.heap.size + 3 ≤ w5.heap.size := by have := hb5.size; omega
 have HO5 := Lib.hid hO5
 have Ho5 := Lib.hid ho5
 clear hO5 ho5 hb5 e4
 go_wp2_with (at_builtin; refine wpList_append_fits _ rfl _ _ 26 rfl w.heap.size 5 i0 1 Tryz.underlying26 hi hz1 (w.heap.size + 1) 8 12 _ rfl HO5.out ⟨g5, 0, none⟩ 4 4 (nums .u8 [ln / 16777216, ln / 65536 % 256, ln / 256 % 256, ln % 256]) rfl rfl (row_cells Ho5.out) (nums_one _ _) (by omega) ?_; intro w6 ho6 hg6)
 go_ret
 exact ⟨_, rfl, ho6, HB5.out.grown hg6 (by omega) (fun k hk => by cases hk; omega)⟩
end Go.Proofs.YtidmgckmphcegaaGreatDoor
/-
 culvertlaw04.awake, and FrameChecks.
-/
namespace Go.Proofs.YtidmgckmphcegaaGreatDoor
open Go.RowKit
set_option linter.unusedVariables false
set_option linter.unusedSimpArgs false
def HB (g : Nat) (ver ty fl st ln : Int) (w : World) : Prop :=
 w.cell? ⟨g, 0, none⟩ = some (.int .u8 ver) ∧ w.cell? ⟨g, 1, none⟩ = some (.int .u8 ty) ∧ w.cell? ⟨g, 2, none⟩ = some (.int .u16 fl) ∧ w.cell? ⟨g, 3, none⟩ = some (.int .u32 st) ∧ w.cell? ⟨g, 4, none⟩ = some (.int .u32 ln)
end Go.Proofs.YtidmgckmphcegaaGreatDoor
/-
 From a row's list of variables to what the walks ask: api's errors and frame's table lie there.
-/
namespace Go.Proofs.YtidmgckmphcegaaGreatDoor
open Go.RowKit Go.ChangeShapes
set_option linter.unusedVariables false
set_option linter.unusedSimpArgs false
theorem gl_all : (List.range 42).all (fun i => Tryz.prog.globalNamed (snm (i + 1)) == some (sgb (i + 1)) && (Tryz.prog.globals[sgb (i + 1)]?).map (·.type) == some 33) = true := by kernel_rfl
theorem gl_at {n : Nat} (h1 : 1 ≤ n) (h2 : n ≤ 42) : Tryz.prog.globalNamed (snm n) = some (sgb n) ∧ (Tryz.prog.globals[sgb n]?).map (·.type) = some 33 := by
 have h := List.all_eq_true.1 gl_all (n - 1) (List.mem_range.2 (by omega))
 rw [show n - 1 + 1 = n by omega] at h
 simp only [Bool.and_eq_true, beq_iff_eq] at h
 exact h
theorem snm_all : (List.range 42).all (fun i => (List.range 42).all fun j => i == j || snm (i + 1) != snm (j + 1)) = true := by decide +kernel
theorem snm_ne {n m : Nat} (h1 : 1 ≤ n) (h2 : n ≤ 42) (h3 : 1 ≤ m) (h4 : m ≤ 42) (hne : n ≠ m) : snm n ≠ snm m := by
 have h := List.all_eq_true.1 (List.all_eq_true.1 snm_all (n - 1) (List.mem_range.2 (by omega))) (m - 1) (List.mem_range.2 (by omega))
 rw [show n - 1 + 1 = n by omega, show m - 1 + 1 = m by omega] at h
 simp only [Bool.or_eq_true, beq_iff_eq, bne_iff_ne] at h
 rcases h with h | h
 · omega
 · exact h
theorem row_es (u : TypeId) (h : Tryz.prog.typeName? 3 u = some "*errors.errorString") : u = 253 :=
 typeName_ptr_named (nm := "errors.errorString") (by rw [show "*" ++ "errors.errorString" = "*errors.errorString" by decide]; kernel_rfl) (by kernel_rfl) (by decide) u (by rw [show "*" ++ "errors.errorString" = "*errors.errorString" by decide]; exact h)
theorem sent_of {W : World} {l : List (String × DataW Unit)} (h : laidMet Tryz.prog l W) {n : Nat} (h1 : 1 ≤ n) (h2 : n ≤ 42) (hm : sentD (snm n) (stx n) ∈ l) : ∃ a, SentAt W 253 (sgb n) a :=
 laid_one h hm (gl_at h1 h2).1 (gl_at h1 h2).2 Tryz.underlying33 row_es Tryz.underlying253 Tryz.underlying255 rfl rfl Tryz.underlying9 (by kernel_rfl) (by kernel_rfl)
theorem good_of {W : World} {l : List (String × DataW Unit)} (h : laidMet Tryz.prog l W) (hm : ∀ n, 1 ≤ n → n ≤ 42 → inG n = true → sentD (snm n) (stx n) ∈ l) : ∃ sa, Good W sa := by
 have hx : ∀ n, ∃ a, 1 ≤ n → n ≤ 42 → inG n = true → SentAt W 253 (sgb n) a := fun n => by
  by_cases hn : 1 ≤ n ∧ n ≤ 42 ∧ inG n = true
  · obtain ⟨a, ha⟩ := sent_of h hn.1 hn.2.1 (hm n hn.1 hn.2.1 hn.2.2)
    exact ⟨a, fun _ _ _ => ha⟩
  · exact ⟨⟨0, 0, none⟩, fun a b c => absurd ⟨a, b, c⟩ hn⟩
 refine ⟨fun n => Classical.choose (hx n), fun n h1 h2 hi => Classical.choose_spec (hx n) h1 h2 hi, fun n m h1 h2 h3 h4 hne hi hj => ?_⟩
 exact laid_ne h (hm n h1 h2 hi) (hm m h3 h4 hj) (snm_ne h1 h2 h3 h4 hne) (gl_at h1 h2).1 (gl_at h1 h2).2 (gl_at h3 h4).1 (gl_at h3 h4).2 Tryz.underlying33 row_es Tryz.underlying253 Tryz.underlying255 rfl rfl Tryz.underlying9 (by kernel_rfl) (by kernel_rfl)
  (Classical.choose_spec (hx n) h1 h2 hi) (Classical.choose_spec (hx m) h3 h4 hj)
theorem laid_at {W : World} {l : List (String × DataW Unit)} {n : String} {d : DataW Unit} {g : Nat} {t : TypeId} (h : laidMet Tryz.prog l W) (hx : (n, d) ∈ l) (hg : Tryz.prog.globalNamed n = some g) (ht : (Tryz.prog.globals[g]?).map (·.type) = some t) :
    ∃ cs fuel p, W.var? Tryz.prog n = some cs ∧ DataW.trod (fun _ => ()) Tryz.prog W 0 (fun _ => true) false fuel t cs.toList = some (d, p) := by
 obtain ⟨ps, ⟨g0, t0, cs0, f0, p0, q0, hg0, ht0, hv0, hd0, _, e0⟩, _, hrows⟩ := laidMet_sub (List.singleton_sublist.2 hx) h
 obtain rfl := Option.some.inj (hg.symm.trans hg0)
 obtain rfl := Option.some.inj (ht.symm.trans ht0)
 exact ⟨cs0, f0, p0, hv0, hd0⟩
def lawD : DataW Unit := .agg [.slice ((lawL 0).map fun z => .lit (.int .u16 z)) [], .slice ((lawL 1).map fun z => .lit (.int .u16 z)) [], .slice ((lawL 2).map fun z => .lit (.int .u16 z)) [], .slice ((lawL 3).map fun z => .lit (.int .u16 z)) []]
set_option maxRecDepth 100000 in
theorem lawful_of {W : World} {l : List (String × DataW Unit)} (h : laidMet Tryz.prog l W) (hm : ("culvert/frame.lawful", lawD) ∈ l) : Lawful W := by
 obtain ⟨cs, fuel, p, hv, hd⟩ := laid_at h hm (g := 5) (t := 112) (by kernel_rfl) (by kernel_rfl)
 obtain ⟨xs, m1, hx0, hx1, hlen, hn3, hel⟩ := DataW.trod_array Tryz.underlying112 hd
 have c87 : Tryz.prog.cellsOf 111 = 1 := by kernel_rfl
 have c88 : Tryz.prog.cellsOf 112 = 4 := by kernel_rfl
 have c23 : Tryz.prog.cellsOf 22 = 1 := by kernel_rfl
 rw [c88] at hlen
 have hL : lawD = .agg (xs.map (·.1)) := congrArg (·.1) hx1
 have hD : ∀ i, i < 4 → (xs.map (·.1))[i]? = some (.slice ((lawL i).map fun z => .lit (.int .u16 z)) []) := fun i hi => by
  have e : xs.map (·.1) = [.slice ((lawL 0).map fun z => .lit (.int .u16 z)) [], .slice ((lawL 1).map fun z => .lit (.int .u16 z)) [], .slice ((lawL 2).map fun z => .lit (.int .u16 z)) [], .slice ((lawL 3).map fun z => .lit (.int .u16 z)) []] := by
   exact (DataW.agg.inj hL).symm
  rw [e]
  match i, hi with
  | 0, _ => rfl
  | 1, _ => rfl
  | 2, _ => rfl
  | 3, _ => rfl
 refine ⟨fun i hi => ?_⟩
 have hi1 := hel i hi
 rw [c87, Nat.mul_one] at hi1
 have hxi : xs[i]? = some (xs[i]'(by omega)) := List.getElem?_eq_getElem (by omega)
 have hci : cs.toList[i]? = some (cs.toList[i]'(by omega)) := List.getElem?_eq_getElem (by omega)
 have htk : List.take 1 (List.drop i cs.toList) = [cs.toList[i]'(by omega)] := by
  rw [List.drop_eq_getElem_cons (by omega)]; rfl
 rw [htk, hxi] at hi1
 have hdi := hD i hi
 rw [List.getElem?_map, hxi] at hdi
 have hy : (xs[i]'(by omega)).1 = .slice ((lawL i).map fun z => .lit (.int .u16 z)) [] := by simpa using hdi
 obtain ⟨a, cap, hcs, hcap, hrow⟩ := open_row Tryz.underlying111 c23 (hi1.trans (congrArg some (Prod.ext hy rfl)))
 have hval : cs.toList[i]'(by omega) = .slice (some a) (lawL i).length cap := by
  have := (List.cons.inj hcs).1
  simpa using this
 refine ⟨a, cap, ?_, fun j hj => ?_⟩
 · have := World.var?_cell (show Tryz.prog.globalNamed "culvert/frame.lawful" = some 5 by kernel_rfl) hv i
   rw [this, ← hval, ← hci]; simp
 · have hdj : ((lawL i).map fun z => (DataW.lit (.int .u16 z) : DataW Unit))[j]? = some (.lit (.int .u16 ((lawL i).getD j 0))) := by
     rw [List.getElem?_map, List.getElem?_eq_getElem hj]
     simp [List.getD, List.getElem?_eq_getElem hj]
   obtain ⟨v, n, q, hc, ht⟩ := hrow j _ hdj
   obtain ⟨z, e1, e2, _⟩ := DataW.trod_int Tryz.underlying22 ht
   have hz : z = (lawL i).getD j 0 := by
    have := congrArg (·.1) e2
    simpa using this.symm
   rw [hc, ← hz]
   simpa using e1
end Go.Proofs.YtidmgckmphcegaaGreatDoor
/-
 A list of bytes, as it lies there; what is appended to a list of bytes that the call itself made.
-/
namespace Go.Proofs.YtidmgckmphcegaaGreatDoor
open Go.RowKit
set_option linter.unusedVariables false
set_option linter.unusedSimpArgs false
def gd (xs : List Int) (j : Nat) : Int := xs.getD j 0
def Bytes (xs : List Int) : Prop := ∀ j, 0 ≤ gd xs j ∧ gd xs j ≤ 255
theorem byte_at {xs : List Int} {k : Nat} {z : Int} (hx : ∀ x ∈ xs, 0 ≤ x ∧ x ≤ 255) (hz : z = xs.getD k 0) : 0 ≤ z ∧ z ≤ 255 := by
 subst hz
 rw [List.getD_eq_getElem?_getD]
 cases h : xs[k]? with
 | none => simp
 | some y => exact hx y (List.mem_of_getElem? h)
structure Bs (w : World) (A : Option Addr) (n c : Nat) (xs : List Int) : Prop where
 len : xs.length = n
 cap : n ≤ c
 max : c ≤ 9223372036854775807
 byt : ∀ x ∈ xs, 0 ≤ x ∧ x ≤ 255
 nil : A = none → n = 0 ∧ c = 0
 rd : 0 < n → ∃ b o, A = some ⟨b, o, none⟩ ∧ ∀ j, j < n → w.cell? ⟨b, o + j, none⟩ = some (.int .u8 (xs.getD j 0))
theorem Bs.drop {w : World} {b o n c : Nat} {xs : List Int} (h : Bs w (some ⟨b, o, none⟩) n c xs) (k : Nat) (hk : k < n) : Bs w (some ⟨b, o + k, none⟩) (n - k) (c - k) (xs.drop k) := by
 have hl := h.len
 have hc := h.cap
 have hm := h.max
 refine ⟨by simp; omega, by omega, by omega, fun x hx => h.byt x (List.mem_of_mem_drop hx), (fun e => by cases e), fun _ => ⟨b, o + k, rfl, fun j hj => ?_⟩⟩
 obtain ⟨b', o', e, hr⟩ := h.rd (by omega)
 obtain ⟨rfl, rfl⟩ : b = b' ∧ o = o' := by simpa using e
 have := hr (k + j) (by omega)
 rw [← Nat.add_assoc] at this
 rw [this]
 simp [List.getD_eq_getElem?_getD]
theorem Bs.next {w w' : World} {A : Option Addr} {n c : Nat} {xs : List Int} (h : Bs w A n c xs) (hb : Below w.heap.size w w') : Bs w' A n c xs :=
 ⟨h.len, h.cap, h.max, h.byt, h.nil, fun hn => by
  obtain ⟨b, o, e, hr⟩ := h.rd hn
  exact ⟨b, o, e, fun j hj => (hb.cell (World.block_lt_of_cell? w _ (hr j hj))).trans (hr j hj)⟩⟩
theorem Bs.bytes {w : World} {A : Option Addr} {n c : Nat} {xs : List Int} (h : Bs w A n c xs) : Bytes xs := fun j => byte_at h.byt rfl
def Own (w : World) (base : Nat) (v : Value) (xs : List Int) : Prop := w.ownsRow base 5 1 v xs.length (nums .u8 xs)
theorem Own.next {w w1 : World} {base : Nat} {v : Value} {xs : List Int} (h : Own w base v xs) (hb : Below w.heap.size w w1) : Own w1 base v xs :=
 World.ownsRow.kept h (row := none) ⟨hb.os, hb.tape, hb.output, hb.size, fun i hi _ => hb.block i hi⟩ (by cases v.ownBlock <;> simp)
theorem Own.bs {w : World} {base : Nat} {v : Value} {xs : List Int} (h : Own w base v xs) (hx : ∀ x ∈ xs, 0 ≤ x ∧ x ≤ 255) : ∃ A c, v = .slice A xs.length c ∧ Bs w A xs.length c xs := by
 rcases h.2 with ⟨rfl, h0⟩ | ⟨g, cap, cur, rfl, hb, hh, hn, hm, hs, ht⟩
 · exact ⟨none, 0, by rw [h0], rfl, by omega, by omega, hx, fun _ => ⟨h0, rfl⟩, fun h => by omega⟩
 · refine ⟨_, cap, rfl, rfl, hn, by simpa [maxLen] using hm, hx, (fun e => by cases e), fun _ => ⟨g, 0, rfl, fun j hj => ?_⟩⟩
   have hown : w.ownsRow base 5 1 (.slice (some ⟨g, 0, none⟩) xs.length cap) xs.length (nums .u8 xs) := h
   rw [Nat.zero_add, hown.cellAt j (by omega)]
   simp [nums, List.getD_eq_getElem?_getD, List.getElem?_eq_getElem hj]
theorem own_new (w : World) (t : Nat) (xs : List Int) (hb : t ≤ w.heap.size) (hm : xs.length ≤ 9223372036854775807) : Own (w.alloc (.cells (nums .u8 xs).toArray 5)) t (.slice (some ⟨w.heap.size, 0, none⟩) xs.length xs.length) xs :=
 own_block hb (alloc_at _ _) (by simp) (nums_length _ _) (by unfold maxLen; omega)
theorem nums_oneC (k : IntKind) (xs : List Int) : ∀ u ∈ nums k xs, u.oneCell' = true := by
 intro u hu
 obtain ⟨_, _, rfl⟩ := List.mem_map.1 hu
 rfl
theorem wpList_append_bs {w : World} {ops : Array Oper} {rest : List Oper} {o : Oper} {a : Act} {Q : Exit → Act → World → Prop} (hgd : o.guard = none) (s x : Operand)
    (ho : o.op = .call { callee := .builtin .append, args := #[s, x], argTypes := #[26, 26] })
    (base : Nat) (v : Value) (ys : List Int) (hs : a.eval s = v) (hown : Own w base v ys) (A : Option Addr) (n c : Nat) (xs : List Int) (hx : a.eval x = .slice A n c) (hB : Bs w A n c xs)
    (h63 : ys.length + n ≤ 140737488355328) (hbase : base ≤ w.heap.size)
    (h : ∀ v' w', Own w' base v' (ys ++ xs) → w.grownBy w' v.ownBlock → (v' = .slice none 0 0 ↔ v = .slice none 0 0 ∧ n = 0) → wpList Tryz.prog ops Q rest (a.put o.dst v') w') : wpList Tryz.prog ops Q (o :: rest) a w := by
 obtain ⟨i0, hi, hz0, hz1, hz2⟩ := info_parts u8_info
 have hl := hB.len
 cases A with
 | none =>
   obtain ⟨rfl, rfl⟩ := hB.nil rfl
   obtain rfl : xs = [] := List.eq_nil_of_length_eq_zero hl
   refine wpList_append_own_none hgd s x 26 ho base 5 i0 1 Tryz.underlying26 hi v _ _ hs hown hx ?_
   exact h v w (by rw [List.append_nil]; exact hown) (World.grownBy.refl _ _) ⟨fun e => ⟨e, rfl⟩, fun e => e.1⟩
 | some ad =>
   refine wpList_append_own w hgd s x 26 ho base 5 i0 (.int .u8 0) 1 1 Tryz.underlying26 hi hz0 hz1 hz2 rfl (by decide) v _ _ hs hown ad n c (nums .u8 xs) hx (by rw [nums_length]; omega) ?_ (nums_oneC _ _) (by unfold maxLen; omega) (by omega) hbase ?_
   · intro j u hu
     have hj : j < n := by
      have := (List.getElem?_eq_some_iff.1 hu).1
      rw [nums_length] at this; omega
     obtain ⟨b, o', e, hr⟩ := hB.rd (by omega)
     obtain rfl := Option.some.inj e
     rw [Addr.add_lit, hr j hj, ← hu]
     simp [nums, List.getD_eq_getElem?_getD, List.getElem?_eq_getElem (show j < xs.length by omega)]
   · intro v' w' h1 h2 h3
     refine h v' w' ?_ h2 h3
     unfold Own
     rw [List.length_append, hl, nums_append]
     exact h1
end Go.Proofs.YtidmgckmphcegaaGreatDoor
/-
 Small lemmas on worlds in which what was there stays.
-/
namespace Go.Proofs.YtidmgckmphcegaaGreatDoor
open Go.RowKit
theorem keepA {W W' : World} (hb : Below W.heap.size W W') {a : Addr} {v : Value} (h : W.cell? a = some v) : W'.cell? a = some v := (hb.cell (World.block_lt_of_cell? W _ h)).trans h
theorem keepB {W W' : World} (hb : Below W.heap.size W W') {k : Nat} {o : Obj} (h : W.heap[k]? = some o) : W'.heap[k]? = some o := (hb.block k (Array.getElem?_eq_some_iff.1 h).1).trans h
theorem ba_ {w : World} {o : Obj} : Below w.heap.size w (w.alloc o) := (Below.refl _ _).alloc (Nat.le_refl _) _
theorem belowT {w W W' : World} (h : Below w.heap.size w W) (hb : Below W.heap.size W W') : Below w.heap.size w W' := h.trans (hb.mono h.size)
def Up (w : World) (F : World → Prop) : Prop := ∀ w', Below w.heap.size w w' → F w'
theorem Up.next {w w1 : World} {F : World → Prop} (h : Up w F) (hb : Below w.heap.size w w1) : Up w1 F := fun w' h' => h w' (belowT hb h')
end Go.Proofs.YtidmgckmphcegaaGreatDoor
/-
 'append(v, x...)' of bytes as one operation: for regions that draw.
-/
namespace Go.Proofs.YtidmgckmphcegaaGreatDoor
open Go.RowKit
set_option linter.unusedVariables false
set_option linter.unusedSimpArgs false
theorem wp_append_bs {w : World} {o : Oper} {a : Act} {K : Act → World → Prop} {Q : Exit → Act → World → Prop} (s x : Operand)
    (ho : o.op = .call { callee := .builtin .append, args := #[s, x], argTypes := #[26, 26] })
    (base : Nat) (v : Value) (ys : List Int) (hs : a.eval s = v) (hown : Own w base v ys) (A : Option Addr) (n c : Nat) (xs : List Int) (hx : a.eval x = .slice A n c) (hB : Bs w A n c xs)
    (h63 : ys.length + n ≤ 140737488355328) (hbase : base ≤ w.heap.size)
    (h : ∀ v' w', Own w' base v' (ys ++ xs) → w.grownBy w' v.ownBlock → (v' = .slice none 0 0 ↔ v = .slice none 0 0 ∧ n = 0) → K (a.put o.dst v') w') : o.wp Tryz.prog a w K Q := by
 obtain ⟨i0, hi, hz0, hz1, hz2⟩ := info_parts u8_info
 have hl := hB.len
 cases A with
 | none =>
   obtain ⟨rfl, rfl⟩ := hB.nil rfl
   obtain rfl : xs = [] := List.eq_nil_of_length_eq_zero hl
   have hrun := run_append_owned_none (P := Tryz.prog) (w := w) base 26 o.type 5 i0 1 Tryz.underlying26 hi v _ _ hown
   unfold Oper.wp execOp
   simp only [ho, resolve, invoke, builtin, Sem.run_bind, Sem.run_pure, Result.andThen_ok, List.map_toArray, List.map_cons, List.map_nil, hs, hx, hrun]
   exact h v w (by rw [List.append_nil]; exact hown) (World.grownBy.refl _ _) ⟨fun e => ⟨e, rfl⟩, fun e => e.1⟩
 | some ad =>
   refine wp_append_own w s x 26 ho base 5 i0 (.int .u8 0) 1 1 Tryz.underlying26 hi hz0 hz1 hz2 rfl (by decide) v _ _ hs hown ad n c (nums .u8 xs) hx (by rw [nums_length]; omega) ?_ (nums_oneC _ _) (by unfold maxLen; omega) (by omega) hbase ?_
   · intro j u hu
     have hj : j < n := by
      have := (List.getElem?_eq_some_iff.1 hu).1
      rw [nums_length] at this; omega
     obtain ⟨b, o', e, hr⟩ := hB.rd (by omega)
     obtain rfl := Option.some.inj e
     rw [Addr.add_lit, hr j hj, ← hu]
     simp [nums, List.getD_eq_getElem?_getD, List.getElem?_eq_getElem (show j < xs.length by omega)]
   · intro v' w' h1 h2 h3
     refine h v' w' ?_ h2 h3
     unfold Own
     rw [List.length_append, hl, nums_append]
     exact h1
theorem step_append_bs {w : World} {ops : Array Oper} {o : Oper} {a : Act} {K : Act → World → Prop} {Q : Exit → Act → World → Prop} {E : Prop} (hgd : o.guard = none) (s x : Operand)
    (ho : o.op = .call { callee := .builtin .append, args := #[s, x], argTypes := #[26, 26] })
    (base : Nat) (v : Value) (ys : List Int) (hs : a.eval s = v) (hown : Own w base v ys) (A : Option Addr) (n c : Nat) (xs : List Int) (hx : a.eval x = .slice A n c) (hB : Bs w A n c xs)
    (h63 : ys.length + n ≤ 140737488355328) (hbase : base ≤ w.heap.size)
    (h : ∀ v' w', Own w' base v' (ys ++ xs) → w.grownBy w' v.ownBlock → (v' = .slice none 0 0 ↔ v = .slice none 0 0 ∧ n = 0) → K (a.put o.dst v') w') :
    if Region.wanted o (yielded ops a.tmps) = true then Oper.wp Tryz.prog o a w K Q else E := by
 have hw : Region.wanted o (yielded ops a.tmps) = true := by simp [Region.wanted, hgd]
 rw [if_pos hw]
 exact wp_append_bs s x ho base v ys hs hown A n c xs hx hB h63 hbase h
end Go.Proofs.YtidmgckmphcegaaGreatDoor
/-
 slices.Clone of a list of bytes; lists of bytes by the blocks that they lie in.
-/
namespace Go.Proofs.YtidmgckmphcegaaGreatDoor
open Go.RowKit Go.Proofs.YtidmgckmphcegaaGreatDoorW.PrintWords
set_option linter.unusedVariables false
set_option linter.unusedSimpArgs false
theorem Bs.dropA {w : World} {A : Option Addr} {n c : Nat} {xs : List Int} (h : Bs w A n c xs) (k : Nat) (hk : k ≤ n) : Bs w (if c = k then A else A.map (·.add k)) (n - k) (c - k) (xs.drop k) := by
 have hl := h.len
 have hc := h.cap
 have hm := h.max
 refine ⟨by simp; omega, by omega, by omega, fun x hx => h.byt x (List.mem_of_mem_drop hx), fun e => ?_, fun h0 => ?_⟩
 · split at e
   · obtain ⟨h1, h2⟩ := h.nil e; omega
   · cases A with
     | none => obtain ⟨h1, h2⟩ := h.nil rfl; omega
     | some a => simp at e
 · obtain ⟨b, o, rfl, hr⟩ := h.rd (by omega)
   rw [if_neg (by omega)]
   refine ⟨b, o + k, ?_, fun j hj => ?_⟩
   · simp [Addr.add]
   · rw [Nat.add_assoc, hr (k + j) (by omega)]
     simp [List.getD_eq_getElem?_getD]
theorem Bs.take' {w : World} {A : Option Addr} {n c : Nat} {xs : List Int} (h : Bs w A n c xs) (k : Nat) (hk : k ≤ n) : Bs w A k c (xs.take k) := by
 have hl := h.len
 have hc := h.cap
 refine ⟨by simp; omega, by omega, h.max, fun x hx => h.byt x (List.mem_of_mem_take hx), fun e => by obtain ⟨h1, h2⟩ := h.nil e; exact ⟨by omega, h2⟩, fun h0 => ?_⟩
 obtain ⟨b, o, e, hr⟩ := h.rd (by omega)
 refine ⟨b, o, e, fun j hj => ?_⟩
 rw [hr j (by omega)]
 simp [List.getD_eq_getElem?_getD, hj]
def FBs (w : World) (ok : Nat → Prop) (A : Option Addr) (n c : Nat) (xs : List Int) : Prop := Foot (fun w => Bs w A n c xs) w ok
theorem FBs.now {w : World} {ok : Nat → Prop} {A : Option Addr} {n c : Nat} {xs : List Int} (h : FBs w ok A n c xs) : Bs w A n c xs := Foot.now h
theorem FBs.step {w w1 : World} {ok : Nat → Prop} {A : Option Addr} {n c : Nat} {xs : List Int} (h : FBs w ok A n c xs) (hm : ∀ k, ok k → k < w.heap.size → w1.heap[k]? = w.heap[k]?) : FBs w1 ok A n c xs := Foot.step h hm
theorem FBs.below {w w1 : World} {ok : Nat → Prop} {A : Option Addr} {n c : Nat} {xs : List Int} (h : FBs w ok A n c xs) (hb : Below w.heap.size w w1) : FBs w1 ok A n c xs := h.step fun k _ hk => hb.block k hk
theorem FBs.drop {w : World} {ok : Nat → Prop} {A : Option Addr} {n c : Nat} {xs : List Int} (h : FBs w ok A n c xs) (k : Nat) (hk : k ≤ n) : FBs w ok (if c = k then A else A.map (·.add k)) (n - k) (c - k) (xs.drop k) := Foot.imp h fun _ hb => hb.dropA k hk
theorem FBs.take {w : World} {ok : Nat → Prop} {A : Option Addr} {n c : Nat} {xs : List Int} (h : FBs w ok A n c xs) (k : Nat) (hk : k ≤ n) : FBs w ok A k c (xs.take k) := Foot.imp h fun _ hb => hb.take' k hk
theorem Own.fbs {w : World} {base : Nat} {v : Value} {xs : List Int} (h : Own w base v xs) (hx : ∀ x ∈ xs, 0 ≤ x ∧ x ≤ 255) : ∃ A c, v = .slice A xs.length c ∧ FBs w (fun k => some k = v.ownBlock) A xs.length c xs := by
 obtain ⟨A, c, rfl, hb⟩ := Own.bs h hx
 refine ⟨A, c, rfl, fun w' hw => ?_⟩
 have h' : Own w' base (.slice A xs.length c) xs := by
  obtain ⟨h1, h2⟩ := h
  refine ⟨h1, ?_⟩
  rcases h2 with h2 | ⟨g, cap, cur, e, hg, hh, r⟩
  · exact .inl h2
  · exact .inr ⟨g, cap, cur, e, hg, (hw g (by rw [e]; simp [Value.ownBlock]) (Array.getElem?_eq_some_iff.1 hh).1).trans hh, r⟩
 obtain ⟨A', c', e, hb'⟩ := Own.bs h' hx
 obtain ⟨rfl, _, rfl⟩ : A = A' ∧ xs.length = xs.length ∧ c = c' := by simpa using e
 exact hb'
theorem Own.keep {w w1 : World} {base : Nat} {v : Value} {xs : List Int} (h : Own w base v xs) (hw : ∀ k, v.ownBlock = some k → w1.heap[k]? = w.heap[k]?) : Own w1 base v xs := by
 obtain ⟨h1, h2⟩ := h
 refine ⟨h1, ?_⟩
 rcases h2 with h2 | ⟨g, cap, cur, rfl, hg, hh, r⟩
 · exact .inl h2
 · exact .inr ⟨g, cap, cur, rfl, hg, (hw g (by simp [Value.ownBlock])).trans hh, r⟩
theorem Own.lower {w : World} {base b' : Nat} {v : Value} {xs : List Int} (h : Own w base v xs) (hb : b' ≤ base) : Own w b' v xs :=
 ⟨h.1, by rcases h.2 with h | ⟨g, cap, cur, a, b, c⟩; exact .inl h; exact .inr ⟨g, cap, cur, a, by omega, c⟩⟩
theorem Own.blk {w : World} {base : Nat} {v : Value} {xs : List Int} (h : Own w base v xs) : ∀ k, v.ownBlock = some k → base ≤ k ∧ k < w.heap.size := fun k hk => h.lt k hk
set_option maxRecDepth 100000 in
theorem clone_any {A : Option Addr} {n c : Nat} {xs : List Int} {w : World} (h : Bs w A n c xs) (hn : n ≤ 140737488351232) :
    Calls Tryz.prog 81 #[.slice A n c] w fun e w' => ∃ v, e = .returned v ∧ Own w' w.heap.size v xs ∧ Below w.heap.size w w' := by
 cases A with
 | none =>
   obtain ⟨rfl, rfl⟩ := h.nil rfl
   have hx : xs = [] := List.eq_nil_of_length_eq_zero h.len
   subst hx
   clear h
   have hq := fun W : World => Lib.run_eql_slice_nil (P := Tryz.prog) W 26 5 none 0 0 0 0 Tryz.underlying26
   go_enter Tryz.func81, Tryz.ntmps81
   go_wp2_with fail
   go_ret
   exact ⟨_, rfl, ⟨by simp [nums], .inl ⟨rfl, rfl⟩⟩, Below.refl _ _⟩
 | some a =>
   have H := Lib.hid h
   clear h
   have hq := fun W : World => Lib.run_eql_slice_nil (P := Tryz.prog) W 26 5 (some a) n c 0 0 Tryz.underlying26
   go_enter Tryz.func81, Tryz.ntmps81
   go_wp2_with (at_builtin; refine wpList_append_bs rfl _ _ rfl w.heap.size (.slice (some ⟨w.heap.size, 0, none⟩) 0 0) [] rfl (own_new w w.heap.size [] (Nat.le_refl _) (by simp)) (some a) n c xs rfl (H.out.next ba_) (by simp; omega) (by simp) ?_; intro v8 w8 ho8 hg8 _; have HB8 := Lib.hid (show Below w.heap.size w w8 from ba_.grown hg8 (by simp) (fun k hk => by simp [Value.ownBlock] at hk; omega)); have HO8 := Lib.hid (show Own w8 w.heap.size v8 xs from ho8); clear ho8 hg8)
   go_ret
   exact ⟨_, rfl, HO8.out, HB8.out⟩
end Go.Proofs.YtidmgckmphcegaaGreatDoor
/-
 frame.Decode.
-/
namespace Go.Proofs.YtidmgckmphcegaaGreatDoor
open Go.RowKit
set_option linter.unusedVariables false
set_option linter.unusedSimpArgs false
def dFl (xs : List Int) : Int := gd xs 2 * 256 + gd xs 3
def dSt (xs : List Int) : Int := gd xs 4 * 16777216 + gd xs 5 * 65536 + gd xs 6 * 256 + gd xs 7
def dLn (xs : List Int) : Int := gd xs 8 * 16777216 + gd xs 9 * 65536 + gd xs 10 * 256 + gd xs 11
structure DecS (x0 x1 : Int) (w W : World) (fl st ln : Int) : Prop where
 box : W.heap[w.heap.size + 1]? = some (.cells #[.int .u8 x0, .int .u8 x1, .int .u16 fl, .int .u32 st, .int .u32 ln] 25 (0, 0))
 res : W.heap[w.heap.size]? = some (.cells #[.int .u8 0, .int .u8 0, .int .u16 0, .int .u32 0, .int .u32 0] 25 (0, 0))
 bel : Below w.heap.size w W
theorem DecS.dr {x0 x1 fl st ln : Int} {w W W' : World} (h : DecS x0 x1 w W fl st ln) (hd : Dr W W') : DecS x0 x1 w W' fl st ln :=
 ⟨(hd.blk _).trans h.box, (hd.blk _).trans h.res, h.bel.trans (hd.below _)⟩
theorem set_other {w : World} {g j k : Nat} (v : Value) (hne : k ≠ g) : (w.setCell ⟨g, j, none⟩ v).heap[k]? = w.heap[k]? := Below.heap_setCell _ _ _ _ hne
theorem DecS.set2 {x0 x1 fl st ln : Int} {w W : World} (h : DecS x0 x1 w W fl st ln) (v : Int) : DecS x0 x1 w (W.setCell ⟨w.heap.size + 1, 2, none⟩ (.int .u16 v)) v st ln :=
 ⟨set_blk _ h.box, (set_other _ (by omega)).trans h.res, h.bel.setCell (by simp) _⟩
theorem DecS.set3 {x0 x1 fl st ln : Int} {w W : World} (h : DecS x0 x1 w W fl st ln) (v : Int) : DecS x0 x1 w (W.setCell ⟨w.heap.size + 1, 3, none⟩ (.int .u32 v)) fl v ln :=
 ⟨set_blk _ h.box, (set_other _ (by omega)).trans h.res, h.bel.setCell (by simp) _⟩
theorem DecS.arg {x0 x1 fl st ln : Int} {w W : World} (h : DecS x0 x1 w W fl st ln) {a : Addr} {v : Value} (hc : w.cell? a = some v) : W.cell? a = some v :=
 (h.bel.cell (World.block_lt_of_cell? w a hc)).trans hc
set_option maxRecDepth 100000 in
theorem decode_yes (b o n c : Nat) (xs : List Int) (w : World) (hn : 12 ≤ n) (hnc : n ≤ c) (hm : c ≤ 9223372036854775807) (hc : ∀ j, j < 12 → w.cell? ⟨b, o + j, none⟩ = some (.int .u8 (gd xs j))) (hx : Bytes xs) :
    Calls Tryz.prog 79 #[.slice (some ⟨b, o, none⟩) n c] w fun e w' => e = .returned (.tuple #[hdr (gd xs 0) (gd xs 1) (dFl xs) (dSt xs) (dLn xs), .nilIface]) ∧ Below w.heap.size w w' := by
 have HC := Lib.hid hc
 have HX := Lib.hid hx
 have c0' : w.cell? ⟨b, o, none⟩ = some (.int .u8 (gd xs 0)) := hc 0 (by omega)
 have c0 := fun o' => cell?_alloc_old o' c0'
 have c1 := fun o' => cell?_alloc_old o' (hc 1 (by omega))
 have c2 := fun o1 o2 => cell?_alloc_old o2 (c0 o1)
 have c3 := fun o1 o2 => cell?_alloc_old o2 (c1 o1)
 have q0 : (0 : Int) < (n : Int) := by omega
 have q1 : (1 : Int) < (n : Int) := by omega
 clear c0'
 clear hc hx
 go_enter Tryz.func79, Tryz.ntmps79
 go_wp2_with fail
 go_region
 go_wp2_with fail
 refine (get16_yes b (o + 2) (n - 2) (c - 2) (gd xs 2) (gd xs 3) _ (by omega) (by omega) ?_ ?_ (HX.out 2).1 (HX.out 2).2 (HX.out 3).1 (HX.out 3).2).mono ?_
 · exact cell?_alloc_old _ (cell?_alloc_old _ (HC.out 2 (by omega)))
 · exact cell?_alloc_old _ (cell?_alloc_old _ (HC.out 3 (by omega)))
 rintro e w1 ⟨rfl, hd1⟩
 have h1 : DecS (gd xs 0) (gd xs 1) w w1 0 0 0 := DecS.dr ⟨alloc_at2 _ _ _, (blk_old _ (by simp)).trans (alloc_at _ _), ba_.alloc (by simp) _⟩ hd1.undrew
 have e1 : w1.cell? ⟨w.heap.size + 1, 2, none⟩ = some (.int .u16 0) := cell_blk h1.box rfl
 have f1 : w1.frozen? ⟨w.heap.size + 1, 2, none⟩ = false := free_blk h1.box
 have H1 := Lib.hid h1
 clear h1 hd1
 go_wp2_with fail
 clear e1 f1
 have H2 := Lib.hid (H1.out.set2 (gd xs 2 * 256 + gd xs 3))
 refine (get32_yes b (o + 4) (n - 4) (c - 4) (gd xs 4) (gd xs 5) (gd xs 6) (gd xs 7) _ (by omega) (by omega) (H2.out.arg (HC.out 4 (by omega))) (H2.out.arg (HC.out 5 (by omega))) (H2.out.arg (HC.out 6 (by omega))) (H2.out.arg (HC.out 7 (by omega)))
  (HX.out 4).1 (HX.out 4).2 (HX.out 5).1 (HX.out 5).2 (HX.out 6).1 (HX.out 6).2 (HX.out 7).1 (HX.out 7).2).mono ?_
 rintro e w2 ⟨rfl, hd2⟩
 have h3 := H2.out.dr hd2
 have e1 : w2.cell? ⟨w.heap.size + 1, 3, none⟩ = some (.int .u32 0) := cell_blk h3.box rfl
 have f1 : w2.frozen? ⟨w.heap.size + 1, 3, none⟩ = false := free_blk h3.box
 have H3 := Lib.hid h3
 clear h3 hd2
 go_wp2_with fail
 clear e1 f1
 have H4 := Lib.hid (H3.out.set3 (gd xs 4 * 16777216 + gd xs 5 * 65536 + gd xs 6 * 256 + gd xs 7))
 refine (get32_yes b (o + 8) (n - 8) (c - 8) (gd xs 8) (gd xs 9) (gd xs 10) (gd xs 11) _ (by omega) (by omega) (H4.out.arg (HC.out 8 (by omega))) (H4.out.arg (HC.out 9 (by omega))) (H4.out.arg (HC.out 10 (by omega))) (H4.out.arg (HC.out 11 (by omega)))
  (HX.out 8).1 (HX.out 8).2 (HX.out 9).1 (HX.out 9).2 (HX.out 10).1 (HX.out 10).2 (HX.out 11).1 (HX.out 11).2).mono ?_
 rintro e w3 ⟨rfl, hd3⟩
 have h5 := H4.out.dr hd3
 have e0 : w3.cell? ⟨w.heap.size + 1, 0, none⟩ = some (.int .u8 (gd xs 0)) := cell_blk h5.box rfl
 have e1 : w3.cell? ⟨w.heap.size + 1, 1, none⟩ = some (.int .u8 (gd xs 1)) := cell_blk h5.box rfl
 have e2 : w3.cell? ⟨w.heap.size + 1, 2, none⟩ = some (.int .u16 (gd xs 2 * 256 + gd xs 3)) := cell_blk h5.box rfl
 have e3 : w3.cell? ⟨w.heap.size + 1, 3, none⟩ = some (.int .u32 (gd xs 4 * 16777216 + gd xs 5 * 65536 + gd xs 6 * 256 + gd xs 7)) := cell_blk h5.box rfl
 have e4 : w3.cell? ⟨w.heap.size + 1, 4, none⟩ = some (.int .u32 0) := cell_blk h5.box rfl
 have r0 : w3.cell? ⟨w.heap.size, 0, none⟩ = some (.int .u8 0) := cell_blk h5.res rfl
 have r1 : w3.cell? ⟨w.heap.size, 1, none⟩ = some (.int .u8 0) := cell_blk h5.res rfl
 have r2 : w3.cell? ⟨w.heap.size, 2, none⟩ = some (.int .u16 0) := cell_blk h5.res rfl
 have r3 : w3.cell? ⟨w.heap.size, 3, none⟩ = some (.int .u32 0) := cell_blk h5.res rfl
 have r4 : w3.cell? ⟨w.heap.size, 4, none⟩ = some (.int .u32 0) := cell_blk h5.res rfl
 have f1 : ∀ j, w3.frozen? ⟨w.heap.size + 1, j, none⟩ = false := fun j => free_blk h5.box
 have f2 : ∀ j, w3.frozen? ⟨w.heap.size, j, none⟩ = false := fun j => free_blk h5.res
 have H5 := Lib.hid h5
 clear h5 hd3
 go_wp2_with fail
 refine bodyPost_ret (v := .tuple #[hdr (gd xs 0) (gd xs 1) (dFl xs) (dSt xs) (dLn xs), .nilIface]) ?_ rfl ⟨rfl, ?_⟩
 · simp [results, Tryz.results79, go_sem, r0, r1, r2, r3, r4, dFl, dSt, dLn]
 · iterate 6 refine Below.setCell ?_ (by simp) _
   exact H5.out.bel
set_option maxRecDepth 100000 in
theorem decode_no {sa : Nat → Addr} (A : Option Addr) (n c : Nat) (w : World) (hG : Good w sa) (hn : n < 12) :
    Calls Tryz.prog 79 #[.slice A n c] w fun e w' => e = .returned (.tuple #[hdr 0 0 0 0 0, sv (sa 3)]) ∧ Below w.heap.size w w' := by
 have g3 := fun o => cell?_alloc_old o (hG.at_ 3 (by omega) (by omega)).glob
 simp only [sgb] at g3
 clear hG
 go_enter Tryz.func79, Tryz.ntmps79
 go_wp2_with fail
 go_region
 all_goals (try go_wp2_with fail)
 refine bodyPost_ret (v := .tuple #[hdr 0 0 0 0 0, sv (sa 3)]) ?_ rfl ⟨rfl, ba_.drew⟩
 simp [results, Tryz.results79, go_sem]
end Go.Proofs.YtidmgckmphcegaaGreatDoor
/-
 The reference's Get: the number that the first bytes write.
-/
namespace Go.Proofs.YtidmgckmphcegaaGreatDoor
open Go.RowKit
set_option linter.unusedVariables false
set_option linter.unusedSimpArgs false
end Go.Proofs.YtidmgckmphcegaaGreatDoor
/-
 FrameReads: the law's walk.
-/
namespace Go.Proofs.YtidmgckmphcegaaGreatDoor
open Go.RowKit
set_option linter.unusedVariables false
set_option linter.unusedSimpArgs false
def D0 (xs : List Int) : Int := if xs.length < 12 then 0 else gd xs 0
def D1 (xs : List Int) : Int := if xs.length < 12 then 0 else gd xs 1
def D2 (xs : List Int) : Int := if xs.length < 12 then 0 else dFl xs
def D3 (xs : List Int) : Int := if xs.length < 12 then 0 else dSt xs
def D4 (xs : List Int) : Int := if xs.length < 12 then 0 else dLn xs
def DE (xs : List Int) : Nat := if xs.length < 12 then 3 else 0
theorem decode_any {sa : Nat → Addr} {A : Option Addr} {n c : Nat} {xs : List Int} {w : World} (hG : Good w sa) (hB : Bs w A n c xs) :
    Calls Tryz.prog 79 #[.slice A n c] w fun e w' => e = .returned (.tuple #[hdr (D0 xs) (D1 xs) (D2 xs) (D3 xs) (D4 xs), errv sa (DE xs)]) ∧ Below w.heap.size w w' := by
 have hl := hB.len
 unfold D0 D1 D2 D3 D4 DE
 by_cases hn : n < 12
 · have hx : xs.length < 12 := by omega
   simp only [if_pos hx]
   exact decode_no A n c w hG hn
 · have hx : ¬ xs.length < 12 := by omega
   simp only [if_neg hx]
   obtain ⟨b, o, rfl, hr⟩ := hB.rd (by omega)
   exact decode_yes b o n c xs w (by omega) hB.cap hB.max (fun j hj => hr j (by omega)) hB.bytes
end Go.Proofs.YtidmgckmphcegaaGreatDoor
/-
 frame.Size and the reference's Size.
-/
namespace Go.Proofs.YtidmgckmphcegaaGreatDoor
open Go.RowKit
set_option linter.unusedVariables false
set_option linter.unusedSimpArgs false
def szF (ty ln : Int) : Int := if ty = 0 then ln else 0
set_option maxRecDepth 100000 in
theorem size_any (ver ty fl st ln : Int) (w : World) (l0 : 0 ≤ ln) (l1 : ln ≤ 4294967295) :
    Calls Tryz.prog 47 #[hdr ver ty fl st ln] w fun e w' => e = .returned (.int .i64 (szF ty ln)) ∧ Below w.heap.size w w' := by
 have hb : Below w.heap.size w (w.alloc (.cells #[.int .u8 ver, .int .u8 ty, .int .u16 fl, .int .u32 st, .int .u32 ln] 25)) := (Below.refl _ _).alloc (Nat.le_refl _) _
 by_cases h : ty = 0
 · subst h
   go_enter Tryz.func47, Tryz.ntmps47
   go_wp2_with fail
   go_ret
   exact ⟨rfl, hb⟩
 · rw [szF, if_neg h]
   have h' : (ty == 0) = false := by simpa using h
   go_enter Tryz.func47, Tryz.ntmps47
   go_wp2_with fail
   go_ret
   exact ⟨rfl, hb⟩
set_option maxRecDepth 100000 in
theorem rsize_any (ver ty fl st ln : Int) (w : World) (l0 : 0 ≤ ln) (l1 : ln ≤ 4294967295) :
    Calls Tryz.prog 44 #[hdr ver ty fl st ln] w fun e w' => e = .returned (.int .i64 (szF ty ln)) ∧ Below w.heap.size w w' := by
 have hb : Below w.heap.size w (w.alloc (.cells #[.int .u8 ver, .int .u8 ty, .int .u16 fl, .int .u32 st, .int .u32 ln] 25)) := (Below.refl _ _).alloc (Nat.le_refl _) _
 by_cases h : ty = 0
 · subst h
   go_enter Tryz.func44, Tryz.ntmps44
   go_wp2_with fail
   go_ret
   exact ⟨rfl, hb⟩
 · rw [szF, if_neg h]
   have h' : (ty == 0) = false := by simpa using h
   go_enter Tryz.func44, Tryz.ntmps44
   go_wp2_with fail
   go_ret
   exact ⟨rfl, hb⟩
end Go.Proofs.YtidmgckmphcegaaGreatDoor
/-
 A header's numbers, in their kinds' bounds; of bytes.
-/
namespace Go.Proofs.YtidmgckmphcegaaGreatDoor
open Go.RowKit
set_option linter.unusedVariables false
structure HdIn (ver ty fl st ln : Int) : Prop where
 v0 : 0 ≤ ver
 v1 : ver ≤ 255
 t0 : 0 ≤ ty
 t1 : ty ≤ 255
 f0 : 0 ≤ fl
 f1 : fl ≤ 65535
 s0 : 0 ≤ st
 s1 : st ≤ 4294967295
 l0 : 0 ≤ ln
 l1 : ln ≤ 4294967295
theorem D_in {ys : List Int} (hx : ∀ x ∈ ys, 0 ≤ x ∧ x ≤ 255) : HdIn (D0 ys) (D1 ys) (D2 ys) (D3 ys) (D4 ys) := by
 have hb : Bytes ys := fun j => byte_at hx rfl
 have b0 := hb 0
 have b1 := hb 1
 have b2 := hb 2
 have b3 := hb 3
 have b4 := hb 4
 have b5 := hb 5
 have b6 := hb 6
 have b7 := hb 7
 have b8 := hb 8
 have b9 := hb 9
 have b10 := hb 10
 have b11 := hb 11
 unfold D0 D1 D2 D3 D4 dFl dSt dLn
 constructor <;> split <;> omega
end Go.Proofs.YtidmgckmphcegaaGreatDoor
/-
 A law's argument that is a list of bytes, opened.
-/
namespace Go.Proofs.YtidmgckmphcegaaGreatDoor
open Go.ChangeShapes Go.WideShapes Go.RowKit Go.Deep
set_option linter.unusedVariables false
theorem bytes_of {W : World} {x : Addr} {len cap : Nat} {zs : List Int} (hl : len ≤ cap) (hm : cap ≤ maxLen) (hz : zs.length = cap) (hc : ∀ i, i < zs.length → W.cell? (x.add i) = some (.int .u8 (zs.getD i 0))) (hw : ∀ n ∈ zs, (Lit.int .u8 n).wf = true) :
    Bs W (some x) len cap (zs.take len) := by
 refine ⟨by simp; omega, hl, by simpa [maxLen] using hm, fun y hy => bd8 (hw y (List.mem_of_mem_take hy)), (fun e => by cases e), fun h0 => ?_⟩
 obtain ⟨b, o, rfl, hr⟩ := ints_at hc (by omega)
 refine ⟨b, o, rfl, fun j hj => ?_⟩
 rw [hr j (by omega)]
 simp [List.getD_eq_getElem?_getD, hj]
end Go.Proofs.YtidmgckmphcegaaGreatDoor
/-
 feed.sentinel: of an error that frame.Check answers, that error itself.
-/
namespace Go.Proofs.YtidmgckmphcegaaGreatDoor
open Go.RowKit
set_option linter.unusedVariables false
set_option linter.unusedSimpArgs false
set_option maxRecDepth 100000 in
theorem sentinel11 {sa : Nat → Addr} {w : World} (hG : Good w sa) :
    Calls Tryz.prog 80 #[sv (sa 11)] w fun e w' => e = .returned (sv (sa 11)) ∧ Below w.heap.size w w' := by
 have g11 := (hG.at_ 11 (by omega) (by omega)).glob
 have g12 := (hG.at_ 12 (by omega) (by omega)).glob
 have g13 := (hG.at_ 13 (by omega) (by omega)).glob
 have g14 := (hG.at_ 14 (by omega) (by omega)).glob
 have g15 := (hG.at_ 15 (by omega) (by omega)).glob
 have g2 := (hG.at_ 2 (by omega) (by omega)).glob
 have g3 := (hG.at_ 3 (by omega) (by omega)).glob
 simp only [sgb] at g11 g12 g13 g14 g15 g2 g3
 have b11 : isB 11 11 = true := by decide
 have hb : Below w.heap.size w (w.alloc (.cells #[sv (sa 11), sv (sa 12), sv (sa 13), sv (sa 14), sv (sa 15), sv (sa 2), sv (sa 3)] 33)) := (Below.refl _ _).alloc (Nat.le_refl _) _
 have HG := Lib.hid (hG.below hb)
 have HB := Lib.hid hb
 clear hG hb
 go_enter Tryz.func80, Tryz.ntmps80
 go_wp2_with fail
 refine wp_loop_rounds 1 ?_
 rw [rounds_succ]
 go_wp2_with fail
 refine (is_any HG.out (.inr (.inl ⟨by omega, by omega, rfl⟩) : EV sa _ 11 0 (sv (sa 11))) 11 (by omega) (by omega)).mono ?_
 rintro e w' ⟨rfl, rfl⟩
 go_wp2_with fail
 go_ret
 exact ⟨rfl, HB.out⟩
set_option maxRecDepth 100000 in
theorem sentinel12 {sa : Nat → Addr} {w : World} (hG : Good w sa) :
    Calls Tryz.prog 80 #[sv (sa 12)] w fun e w' => e = .returned (sv (sa 12)) ∧ Below w.heap.size w w' := by
 have g11 := (hG.at_ 11 (by omega) (by omega)).glob
 have g12 := (hG.at_ 12 (by omega) (by omega)).glob
 have g13 := (hG.at_ 13 (by omega) (by omega)).glob
 have g14 := (hG.at_ 14 (by omega) (by omega)).glob
 have g15 := (hG.at_ 15 (by omega) (by omega)).glob
 have g2 := (hG.at_ 2 (by omega) (by omega)).glob
 have g3 := (hG.at_ 3 (by omega) (by omega)).glob
 simp only [sgb] at g11 g12 g13 g14 g15 g2 g3
 have b11 : isB 12 11 = false := by decide
 have b12 : isB 12 12 = true := by decide
 have hb : Below w.heap.size w (w.alloc (.cells #[sv (sa 11), sv (sa 12), sv (sa 13), sv (sa 14), sv (sa 15), sv (sa 2), sv (sa 3)] 33)) := (Below.refl _ _).alloc (Nat.le_refl _) _
 have HG := Lib.hid (hG.below hb)
 have HB := Lib.hid hb
 clear hG hb
 go_enter Tryz.func80, Tryz.ntmps80
 go_wp2_with fail
 refine wp_loop_rounds 2 ?_
 rw [rounds_succ]
 go_wp2_with fail
 refine (is_any HG.out (.inr (.inl ⟨by omega, by omega, rfl⟩) : EV sa _ 12 0 (sv (sa 12))) 11 (by omega) (by omega)).mono ?_
 rintro e w' ⟨rfl, rfl⟩
 go_wp2_with fail
 rw [rounds_succ]
 go_wp2_with fail
 refine (is_any HG.out (.inr (.inl ⟨by omega, by omega, rfl⟩) : EV sa _ 12 0 (sv (sa 12))) 12 (by omega) (by omega)).mono ?_
 rintro e w' ⟨rfl, rfl⟩
 go_wp2_with fail
 go_ret
 exact ⟨rfl, HB.out⟩
set_option maxRecDepth 100000 in
theorem sentinel13 {sa : Nat → Addr} {w : World} (hG : Good w sa) :
    Calls Tryz.prog 80 #[sv (sa 13)] w fun e w' => e = .returned (sv (sa 13)) ∧ Below w.heap.size w w' := by
 have g11 := (hG.at_ 11 (by omega) (by omega)).glob
 have g12 := (hG.at_ 12 (by omega) (by omega)).glob
 have g13 := (hG.at_ 13 (by omega) (by omega)).glob
 have g14 := (hG.at_ 14 (by omega) (by omega)).glob
 have g15 := (hG.at_ 15 (by omega) (by omega)).glob
 have g2 := (hG.at_ 2 (by omega) (by omega)).glob
 have g3 := (hG.at_ 3 (by omega) (by omega)).glob
 simp only [sgb] at g11 g12 g13 g14 g15 g2 g3
 have b11 : isB 13 11 = false := by decide
 have b12 : isB 13 12 = false := by decide
 have b13 : isB 13 13 = true := by decide
 have hb : Below w.heap.size w (w.alloc (.cells #[sv (sa 11), sv (sa 12), sv (sa 13), sv (sa 14), sv (sa 15), sv (sa 2), sv (sa 3)] 33)) := (Below.refl _ _).alloc (Nat.le_refl _) _
 have HG := Lib.hid (hG.below hb)
 have HB := Lib.hid hb
 clear hG hb
 go_enter Tryz.func80, Tryz.ntmps80
 go_wp2_with fail
 refine wp_loop_rounds 3 ?_
 rw [rounds_succ]
 go_wp2_with fail
 refine (is_any HG.out (.inr (.inl ⟨by omega, by omega, rfl⟩) : EV sa _ 13 0 (sv (sa 13))) 11 (by omega) (by omega)).mono ?_
 rintro e w' ⟨rfl, rfl⟩
 go_wp2_with fail
 rw [rounds_succ]
 go_wp2_with fail
 refine (is_any HG.out (.inr (.inl ⟨by omega, by omega, rfl⟩) : EV sa _ 13 0 (sv (sa 13))) 12 (by omega) (by omega)).mono ?_
 rintro e w' ⟨rfl, rfl⟩
 go_wp2_with fail
 rw [rounds_succ]
 go_wp2_with fail
 refine (is_any HG.out (.inr (.inl ⟨by omega, by omega, rfl⟩) : EV sa _ 13 0 (sv (sa 13))) 13 (by omega) (by omega)).mono ?_
 rintro e w' ⟨rfl, rfl⟩
 go_wp2_with fail
 go_ret
 exact ⟨rfl, HB.out⟩
set_option maxRecDepth 100000 in
theorem sentinel14 {sa : Nat → Addr} {w : World} (hG : Good w sa) :
    Calls Tryz.prog 80 #[sv (sa 14)] w fun e w' => e = .returned (sv (sa 14)) ∧ Below w.heap.size w w' := by
 have g11 := (hG.at_ 11 (by omega) (by omega)).glob
 have g12 := (hG.at_ 12 (by omega) (by omega)).glob
 have g13 := (hG.at_ 13 (by omega) (by omega)).glob
 have g14 := (hG.at_ 14 (by omega) (by omega)).glob
 have g15 := (hG.at_ 15 (by omega) (by omega)).glob
 have g2 := (hG.at_ 2 (by omega) (by omega)).glob
 have g3 := (hG.at_ 3 (by omega) (by omega)).glob
 simp only [sgb] at g11 g12 g13 g14 g15 g2 g3
 have b11 : isB 14 11 = false := by decide
 have b12 : isB 14 12 = false := by decide
 have b13 : isB 14 13 = false := by decide
 have b14 : isB 14 14 = true := by decide
 have hb : Below w.heap.size w (w.alloc (.cells #[sv (sa 11), sv (sa 12), sv (sa 13), sv (sa 14), sv (sa 15), sv (sa 2), sv (sa 3)] 33)) := (Below.refl _ _).alloc (Nat.le_refl _) _
 have HG := Lib.hid (hG.below hb)
 have HB := Lib.hid hb
 clear hG hb
 go_enter Tryz.func80, Tryz.ntmps80
 go_wp2_with fail
 refine wp_loop_rounds 4 ?_
 rw [rounds_succ]
 go_wp2_with fail
 refine (is_any HG.out (.inr (.inl ⟨by omega, by omega, rfl⟩) : EV sa _ 14 0 (sv (sa 14))) 11 (by omega) (by omega)).mono ?_
 rintro e w' ⟨rfl, rfl⟩
 go_wp2_with fail
 rw [rounds_succ]
 go_wp2_with fail
 refine (is_any HG.out (.inr (.inl ⟨by omega, by omega, rfl⟩) : EV sa _ 14 0 (sv (sa 14))) 12 (by omega) (by omega)).mono ?_
 rintro e w' ⟨rfl, rfl⟩
 go_wp2_with fail
 rw [rounds_succ]
 go_wp2_with fail
 refine (is_any HG.out (.inr (.inl ⟨by omega, by omega, rfl⟩) : EV sa _ 14 0 (sv (sa 14))) 13 (by omega) (by omega)).mono ?_
 rintro e w' ⟨rfl, rfl⟩
 go_wp2_with fail
 rw [rounds_succ]
 go_wp2_with fail
 refine (is_any HG.out (.inr (.inl ⟨by omega, by omega, rfl⟩) : EV sa _ 14 0 (sv (sa 14))) 14 (by omega) (by omega)).mono ?_
 rintro e w' ⟨rfl, rfl⟩
 go_wp2_with fail
 go_ret
 exact ⟨rfl, HB.out⟩
set_option maxRecDepth 100000 in
theorem sentinel15 {sa : Nat → Addr} {w : World} (hG : Good w sa) :
    Calls Tryz.prog 80 #[sv (sa 15)] w fun e w' => e = .returned (sv (sa 15)) ∧ Below w.heap.size w w' := by
 have g11 := (hG.at_ 11 (by omega) (by omega)).glob
 have g12 := (hG.at_ 12 (by omega) (by omega)).glob
 have g13 := (hG.at_ 13 (by omega) (by omega)).glob
 have g14 := (hG.at_ 14 (by omega) (by omega)).glob
 have g15 := (hG.at_ 15 (by omega) (by omega)).glob
 have g2 := (hG.at_ 2 (by omega) (by omega)).glob
 have g3 := (hG.at_ 3 (by omega) (by omega)).glob
 simp only [sgb] at g11 g12 g13 g14 g15 g2 g3
 have b11 : isB 15 11 = false := by decide
 have b12 : isB 15 12 = false := by decide
 have b13 : isB 15 13 = false := by decide
 have b14 : isB 15 14 = false := by decide
 have b15 : isB 15 15 = true := by decide
 have hb : Below w.heap.size w (w.alloc (.cells #[sv (sa 11), sv (sa 12), sv (sa 13), sv (sa 14), sv (sa 15), sv (sa 2), sv (sa 3)] 33)) := (Below.refl _ _).alloc (Nat.le_refl _) _
 have HG := Lib.hid (hG.below hb)
 have HB := Lib.hid hb
 clear hG hb
 go_enter Tryz.func80, Tryz.ntmps80
 go_wp2_with fail
 refine wp_loop_rounds 5 ?_
 rw [rounds_succ]
 go_wp2_with fail
 refine (is_any HG.out (.inr (.inl ⟨by omega, by omega, rfl⟩) : EV sa _ 15 0 (sv (sa 15))) 11 (by omega) (by omega)).mono ?_
 rintro e w' ⟨rfl, rfl⟩
 go_wp2_with fail
 rw [rounds_succ]
 go_wp2_with fail
 refine (is_any HG.out (.inr (.inl ⟨by omega, by omega, rfl⟩) : EV sa _ 15 0 (sv (sa 15))) 12 (by omega) (by omega)).mono ?_
 rintro e w' ⟨rfl, rfl⟩
 go_wp2_with fail
 rw [rounds_succ]
 go_wp2_with fail
 refine (is_any HG.out (.inr (.inl ⟨by omega, by omega, rfl⟩) : EV sa _ 15 0 (sv (sa 15))) 13 (by omega) (by omega)).mono ?_
 rintro e w' ⟨rfl, rfl⟩
 go_wp2_with fail
 rw [rounds_succ]
 go_wp2_with fail
 refine (is_any HG.out (.inr (.inl ⟨by omega, by omega, rfl⟩) : EV sa _ 15 0 (sv (sa 15))) 14 (by omega) (by omega)).mono ?_
 rintro e w' ⟨rfl, rfl⟩
 go_wp2_with fail
 rw [rounds_succ]
 go_wp2_with fail
 refine (is_any HG.out (.inr (.inl ⟨by omega, by omega, rfl⟩) : EV sa _ 15 0 (sv (sa 15))) 15 (by omega) (by omega)).mono ?_
 rintro e w' ⟨rfl, rfl⟩
 go_wp2_with fail
 go_ret
 exact ⟨rfl, HB.out⟩
theorem sentinel_of {sa : Nat → Addr} {w : World} (hG : Good w sa) (e : Nat) (h1 : 11 ≤ e) (h2 : e ≤ 15) :
    Calls Tryz.prog 80 #[sv (sa e)] w fun x w' => x = .returned (sv (sa e)) ∧ Below w.heap.size w w' := by
 rcases (by omega : e = 11 ∨ e = 12 ∨ e = 13 ∨ e = 14 ∨ e = 15) with rfl | rfl | rfl | rfl | rfl
 · exact sentinel11 hG
 · exact sentinel12 hG
 · exact sentinel13 hG
 · exact sentinel14 hG
 · exact sentinel15 hG
end Go.Proofs.YtidmgckmphcegaaGreatDoor
/-
 errors.As at '*api.Violation': of nil, of a violation. Lines of the worked ToyasAs.lean, turned to this program.
-/
namespace Go.Proofs.YtidmgckmphcegaaGreatDoor
open Go.RowKit Go.Extern.Stop Go.Stop Go.Extern
set_option linter.unusedVariables false
set_option linter.unusedSimpArgs false
set_option maxRecDepth 100000
/-! ### CLOSED FACTS ON THE MODEL's ENTRIES FOR internal/reflectlite, at this program's types: 25: *p.E · 27: **p.E · 23: error · 45: reflectlite's rtype · 1: how many package-level variables the dump has -/
theorem AsvalueOf27 (t : Addr) (w : World) : (ReflectliteValue.unpack (.iface 134 (.pointer (some t)))).run Tryz.prog w
    = .ok (.agg #[.pointer (some ⟨53, 134, none⟩), .pointer (some ⟨w.heap.size, 0, none⟩), .int .u64 150]) (w.alloc (.cells #[.pointer (some t)] 134)) := by kernel_rfl
theorem Astype27 (a : Addr) (w : World) : (ReflectliteValue.methodAny (ReflectliteValue.valueError "reflectlite.Value.Type" 0) (fun t _ _ _ => ReflectliteType.toType t) #[.agg #[.pointer (some ⟨53, 134, none⟩), .pointer (some a), .int .u64 150]]).run Tryz.prog w
    = .ok (.iface 192 (.agg #[.pointer (some ⟨53, 134, none⟩)])) w := by kernel_rfl
theorem AsmethodKind (h : Value) (w : World) : (Go.method 382 192 (.agg #[h]) "Kind").run Tryz.prog w = .ok (182, h) w := by kernel_rfl
theorem Askind27 (w : World) : ((ReflectliteType.abiMethod fun t => (fun a : Nat => Value.int IntKind.u8 (a : Int)) <$> Rtype.kind t) #[.pointer (some ⟨53, 134, none⟩)]).run Tryz.prog w = .ok (.int .u8 22) w := by kernel_rfl
theorem Askind25 (w : World) : ((ReflectliteType.abiMethod fun t => (fun a : Nat => Value.int IntKind.u8 (a : Int)) <$> Rtype.kind t) #[.pointer (some ⟨53, 131, none⟩)]).run Tryz.prog w = .ok (.int .u8 22) w := by kernel_rfl
/-! ### THE ENTRIES THAT READ OR WRITE MEMORY: laws with a premise on the cell (after Derived/Lib/ReflectliteSlice.lean's manner: each unfolding a lemma of its own, by rfl) -/
theorem rlm (z : Sem Value) (f : TypeId → Addr → Nat → Nat → Sem Value) (v : Value) :
    ReflectliteValue.method z f #[v] = (do match ← ReflectliteValue.parts v with | none => z | some (t, a, fl) => f t a fl (fl % 32)) := rfl
theorem Asparts27 (a : Addr) (w : World) : (ReflectliteValue.parts (.agg #[.pointer (some ⟨53, 134, none⟩), .pointer (some a), .int .u64 150])).run Tryz.prog w = .ok (some (134, a, 150)) w := by kernel_rfl
theorem AsisNil27 (a p : Addr) (W : World) (ha : W.cell? a = some (.pointer (some p))) :
    (ReflectliteValue.method (ReflectliteValue.valueError "reflectlite.Value.IsNil" 0) ReflectliteValue.isNil #[.agg #[.pointer (some ⟨53, 134, none⟩), .pointer (some a), .int .u64 150]]).run Tryz.prog W = .ok (.bool false) W := by
 rw [rlm]
 simp only [Sem.run_bind, Asparts27, Result.andThen]
 simp [ReflectliteValue.isNil, loadVar, isAgg, underlying, Tryz.underlying134, ha, Result.andThen]
theorem AsmethodElem (h : Value) (w : World) : (Go.method 382 192 (.agg #[h]) "Elem").run Tryz.prog w = .ok (195, .agg #[h]) w := by kernel_rfl
theorem AsmethodImplements (h : Value) (w : World) : (Go.method 382 192 (.agg #[h]) "Implements").run Tryz.prog w = .ok (196, .agg #[h]) w := by kernel_rfl
theorem AsmethodAssignableTo (h : Value) (w : World) : (Go.method 382 192 (.agg #[h]) "AssignableTo").run Tryz.prog w = .ok (193, .agg #[h]) w := by kernel_rfl
theorem Aselem27 (w : World) : (ReflectliteType.method ReflectliteType.elem #[.agg #[.pointer (some ⟨53, 134, none⟩)]]).run Tryz.prog w = .ok (.iface 192 (.agg #[.pointer (some ⟨53, 131, none⟩)])) w := by kernel_rfl
theorem Asimplements25 (w : World) : (ReflectliteType.relation "Implements" ReflectliteType.implements_ #[.agg #[.pointer (some ⟨53, 131, none⟩)], .iface 192 (.agg #[.pointer (some ⟨53, 33, none⟩)])]).run Tryz.prog w = .ok (.bool true) w := by kernel_rfl
theorem AstypeOf25 (v : Value) (w : World) : (ReflectliteType.typeOf #[.iface 131 v]).run Tryz.prog w = .ok (.iface 192 (.agg #[.pointer (some ⟨53, 131, none⟩)])) w := by kernel_rfl
theorem Asassignable25 (w : World) : (ReflectliteType.relation "AssignableTo" ReflectliteType.assignableTo #[.agg #[.pointer (some ⟨53, 131, none⟩)], .iface 192 (.agg #[.pointer (some ⟨53, 131, none⟩)])]).run Tryz.prog w = .ok (.bool true) w := by kernel_rfl
theorem AsvalueOf25 (e : Addr) (w : World) : (ReflectliteValue.unpack (.iface 131 (.pointer (some e)))).run Tryz.prog w
    = .ok (.agg #[.pointer (some ⟨53, 131, none⟩), .pointer (some ⟨w.heap.size, 0, none⟩), .int .u64 150]) (w.alloc (.cells #[.pointer (some e)] 131)) := by kernel_rfl
theorem AselemOf27 (w : World) : (Rtype.elem? 134).run Tryz.prog w = .ok (some 131) w := by kernel_rfl
theorem Asmk25 (p : Addr) (w : World) : (ReflectliteValue.mk 131 p ReflectliteValue.flagAddr).run Tryz.prog w = .ok (.agg #[.pointer (some ⟨53, 131, none⟩), .pointer (some p), .int .u64 406]) w := by kernel_rfl
theorem AselemV27 (a p : Addr) (W : World) (ha : W.cell? a = some (.pointer (some p))) :
    (ReflectliteValue.method (ReflectliteValue.valueError "reflectlite.Value.Elem" 0) ReflectliteValue.elem #[.agg #[.pointer (some ⟨53, 134, none⟩), .pointer (some a), .int .u64 150]]).run Tryz.prog W
     = .ok (.agg #[.pointer (some ⟨53, 131, none⟩), .pointer (some p), .int .u64 406]) W := by
 rw [rlm]
 simp only [Sem.run_bind, Asparts27, Result.andThen]
 simp [ReflectliteValue.elem, loadVar, isAgg, underlying, Tryz.underlying134, ha, Result.andThen, AselemOf27, Asmk25]
theorem rls (v x : Value) : ReflectliteValue.set #[v, x] = (do
    let (some (dst, a, fl), some (src, b, _)) := (← ReflectliteValue.parts v, ← ReflectliteValue.parts x)
     | unsupported (.noEntry "extern/(internal/reflectlite.Value).Set.zeroValue")
    if fl / ReflectliteValue.flagAddr % 2 == 0 then unsupported (.noEntry "extern/(internal/reflectlite.Value).Set.unaddressable")
    let val ← loadVar src b
    if ← Rtype.directlyAssignable dst src then storeVar dst a val
    else if ← Rtype.implements dst src then
     if (← Rtype.kind src) == 20 then
      match val with
      | .nilIface => unsupported (.noEntry "extern/reflectlite: a nil value of one interface type handed on as a value of another")
      | _ => storeVar dst a val
     else storeVar dst a (.iface src val)
    else panicString ("reflectlite.Set: value of type " ++ (← Rtype.spelt src) ++ " is not assignable to type " ++ (← Rtype.spelt dst))
    pure (.tuple #[])) := rfl
theorem Asparts25a (a : Addr) (w : World) : (ReflectliteValue.parts (.agg #[.pointer (some ⟨53, 131, none⟩), .pointer (some a), .int .u64 406])).run Tryz.prog w = .ok (some (131, a, 406)) w := by kernel_rfl
theorem Asparts25 (a : Addr) (w : World) : (ReflectliteValue.parts (.agg #[.pointer (some ⟨53, 131, none⟩), .pointer (some a), .int .u64 150])).run Tryz.prog w = .ok (some (131, a, 150)) w := by kernel_rfl
theorem Asdirect25 (w : World) : (Rtype.directlyAssignable 131 131).run Tryz.prog w = .ok true w := by kernel_rfl
theorem Asset25 (ta b e : Addr) (old : Value) (W : World) (hb : W.cell? b = some (.pointer (some e))) (ht : W.cell? ta = some old) (hf : W.frozen? ta = false) :
    (ReflectliteValue.set #[.agg #[.pointer (some ⟨53, 131, none⟩), .pointer (some ta), .int .u64 406], .agg #[.pointer (some ⟨53, 131, none⟩), .pointer (some b), .int .u64 150]]).run Tryz.prog W
     = .ok (.tuple #[]) (W.setCell ta (.pointer (some e))) := by
 rw [rls]
 simp only [Sem.run_bind, Asparts25a, Asparts25, Result.andThen]
 simp [ReflectliteValue.flagAddr, loadVar, isAgg, underlying, Tryz.underlying131, hb, Result.andThen, Asdirect25, storeVar, Value.cells, storeCells, Addr.add]
 rw [run_store Tryz.prog W ta _ _ (by rfl)]
 simp [ht, hf]
set_option maxHeartbeats 4000000 in
theorem as_hit (e t : Addr) (old : Value) (w : World) (hg : w.cell? ⟨44, 0, none⟩ = some (.iface 192 (.agg #[.pointer (some ⟨53, 33, none⟩)]))) (ht0 : w.cell? t = some old) (hf0 : w.frozen? t = false) :
    Calls Tryz.prog 75 #[.iface 131 (.pointer (some e)), .iface 134 (.pointer (some t))] w fun ev w' => ev = .returned (.bool true) ∧ w' = ((((w.alloc (.cells #[.pointer (some t)] 134)).alloc (.cells #[.pointer (some ⟨53, 134, none⟩), .pointer (some ⟨w.heap.size, 0, none⟩), .int .u64 150] 177)).alloc (.cells #[.pointer (some ⟨53, 134, none⟩), .pointer (some ⟨w.heap.size, 0, none⟩), .int .u64 150] 177)).alloc (.cells #[.pointer (some e)] 131)).setCell t (.pointer (some e)) := by
 have h6 := @run_callFunc_extern Tryz.prog 111 _ (fun args => ReflectliteValue.unpack (args.getD 0 (.tuple #[]))) Tryz.func111 (by kernel_rfl) (by kernel_rfl) (by kernel_rfl) (by kernel_rfl)
 have h7 := @run_callFunc_extern Tryz.prog 112 _ (ReflectliteValue.methodAny (ReflectliteValue.valueError "reflectlite.Value.Type" 0) (fun t _ _ _ => ReflectliteType.toType t)) Tryz.func112 (by kernel_rfl) (by kernel_rfl) (by kernel_rfl) (by kernel_rfl)
 have h8 := @run_callFunc_extern Tryz.prog 113 _ (ReflectliteValue.method (ReflectliteValue.valueError "reflectlite.Value.IsNil" 0) ReflectliteValue.isNil) Tryz.func113 (by kernel_rfl) (by kernel_rfl) (by kernel_rfl) (by kernel_rfl)
 have h27 := @run_callFunc_extern Tryz.prog 182 _ (ReflectliteType.abiMethod fun t => do pure (.int .u8 (← Rtype.kind t))) Tryz.func182 (by kernel_rfl) (by kernel_rfl) (by kernel_rfl) (by kernel_rfl)
 have h37 := @run_callFunc_extern Tryz.prog 195 _ (ReflectliteType.method ReflectliteType.elem) Tryz.func195 (by kernel_rfl) (by kernel_rfl) (by kernel_rfl) (by kernel_rfl)
 have h38 := @run_callFunc_extern Tryz.prog 196 _ (ReflectliteType.relation "Implements" ReflectliteType.implements_) Tryz.func196 (by kernel_rfl) (by kernel_rfl) (by kernel_rfl) (by kernel_rfl)
 have h10 := @run_callFunc_extern Tryz.prog 90 _ ReflectliteType.typeOf Tryz.func90 (by kernel_rfl) (by kernel_rfl) (by kernel_rfl) (by kernel_rfl)
 have h35 := @run_callFunc_extern Tryz.prog 193 _ (ReflectliteType.relation "AssignableTo" ReflectliteType.assignableTo) Tryz.func193 (by kernel_rfl) (by kernel_rfl) (by kernel_rfl) (by kernel_rfl)
 have h11 := @run_callFunc_extern Tryz.prog 128 _ (ReflectliteValue.method (ReflectliteValue.valueError "reflectlite.Value.Elem" 0) ReflectliteValue.elem) Tryz.func128 (by kernel_rfl) (by kernel_rfl) (by kernel_rfl) (by kernel_rfl)
 have h12 := @run_callFunc_extern Tryz.prog 129 _ ReflectliteValue.set Tryz.func129 (by kernel_rfl) (by kernel_rfl) (by kernel_rfl) (by kernel_rfl)
 have tO := AstypeOf25
 have mA := AsmethodAssignableTo
 have a25 := Asassignable25
 have v25 := AsvalueOf25
 have f6 := AsvalueOf27
 have f7 := Astype27
 have mK := AsmethodKind
 have mE := AsmethodElem
 have mI := AsmethodImplements
 have k27 := Askind27
 have k25 := Askind25
 have e27 := Aselem27
 have i25 := Asimplements25
 have n8 := AsisNil27 ⟨w.heap.size, 0, none⟩ t ((w.alloc (.cells #[.pointer (some t)] 134)).alloc (.cells #[.pointer (some ⟨53, 134, none⟩), .pointer (some ⟨w.heap.size, 0, none⟩), .int .u64 150] 177)) (by simp)
 have hlt : 44 < w.heap.size := World.block_lt_of_cell? w _ hg
 have hg2 : ((w.alloc (.cells #[.pointer (some t)] 134)).alloc (.cells #[.pointer (some ⟨53, 134, none⟩), .pointer (some ⟨w.heap.size, 0, none⟩), .int .u64 150] 177)).cell? ⟨44, 0, none⟩ = some (.iface 192 (.agg #[.pointer (some ⟨53, 33, none⟩)])) := by
  rw [World.cell?_alloc_lt _ _ ⟨44, 0, none⟩ (by simp; omega), World.cell?_alloc_lt _ _ ⟨44, 0, none⟩ hlt]; exact hg
 have htl : t.block < w.heap.size := by
  rcases Nat.lt_or_ge t.block w.heap.size with h | h
  · exact h
  · simp [World.cell?, Array.getElem?_eq_none h] at ht0
 have el := AselemV27 ⟨w.heap.size, 0, none⟩ t (((w.alloc (.cells #[.pointer (some t)] 134)).alloc (.cells #[.pointer (some ⟨53, 134, none⟩), .pointer (some ⟨w.heap.size, 0, none⟩), .int .u64 150] 177)).alloc (.cells #[.pointer (some ⟨53, 134, none⟩), .pointer (some ⟨w.heap.size, 0, none⟩), .int .u64 150] 177)) (by rw [World.cell?_alloc_lt _ _ ⟨w.heap.size, 0, none⟩ (by simp; omega)]; simp)
 have st := Asset25 t ⟨w.heap.size + 1 + 1 + 1, 0, none⟩ e old ((((w.alloc (.cells #[.pointer (some t)] 134)).alloc (.cells #[.pointer (some ⟨53, 134, none⟩), .pointer (some ⟨w.heap.size, 0, none⟩), .int .u64 150] 177)).alloc (.cells #[.pointer (some ⟨53, 134, none⟩), .pointer (some ⟨w.heap.size, 0, none⟩), .int .u64 150] 177)).alloc (.cells #[.pointer (some e)] 131))
  (by rw [World.cell?_alloc_at _ _ _ _ (by simp)]; rfl)
  (by rw [World.cell?_alloc_lt _ _ t (by simp; omega), World.cell?_alloc_lt _ _ t (by simp; omega), World.cell?_alloc_lt _ _ t (by simp; omega), World.cell?_alloc_lt _ _ t htl]; exact ht0)
  (by rw [World.frozen?_alloc_old _ _ t (by simp; omega), World.frozen?_alloc_old _ _ t (by simp; omega), World.frozen?_alloc_old _ _ t (by simp; omega), World.frozen?_alloc_old _ _ t (Nat.ne_of_lt htl)]; exact hf0)
 go_enter Tryz.func75, Tryz.ntmps75
 go_wp2
 refine wp_loop_rounds 1 ?_
 rw [rounds_succ]
 go_wp2
 go_ret
 exact ⟨rfl, rfl⟩
end Go.Proofs.YtidmgckmphcegaaGreatDoor
/-
 culvertlaw01.Stream: of nil, of a violation.
-/
namespace Go.Proofs.YtidmgckmphcegaaGreatDoor
open Go.RowKit
set_option linter.unusedVariables false
set_option linter.unusedSimpArgs false
theorem alloc_blk (w : World) (o : Obj) : (w.alloc o).heap[w.heap.size]? = some o := by simp [World.alloc, -World.alloc_eq]
abbrev ErT (w : World) : Prop := w.cell? ⟨44, 0, none⟩ = some (.iface 192 (.agg #[.pointer (some ⟨53, 33, none⟩)]))
end Go.Proofs.YtidmgckmphcegaaGreatDoor
/-
 From a row's list of variables to errors.errorType's cell.
-/
namespace Go.Proofs.YtidmgckmphcegaaGreatDoor
open Go.RowKit Go.ChangeShapes
theorem etAt : Tryz.prog.globalNamed "errors.errorType" = some 44 := by kernel_rfl
theorem etRt : (Tryz.prog.cutTypes.find? (·.1 == "internal/reflectlite.rtype")).map (·.2) = some 192 := by kernel_rfl
theorem etRow : ((List.range Tryz.prog.types.size).filter fun t => Tryz.prog.rowNamed t [101, 114, 114, 111, 114]) = [33] := by kernel_rfl
theorem ert_of {W : World} {l : List (String × DataW Unit)} (h : laidMetH Tryz.prog l W) (hm : ("errors.errorType", (.iface "internal/reflectlite.rtype" (.agg [.ptr (.lit (.string [101, 114, 114, 111, 114]))]) : DataW Unit)) ∈ l) : ErT W := by
 obtain ⟨name, u, ty, e1, e2, e3, e4, e5⟩ := (laidMetH_iff.1 h).2 _ (List.mem_filter.2 ⟨hm, rfl⟩)
 have en : name = [101, 114, 114, 111, 114] := (Option.some.inj e1).symm
 subst en
 obtain rfl := Option.some.inj (etRt.symm.trans e2)
 have hx : ty ∈ (List.range Tryz.prog.types.size).filter fun t => Tryz.prog.rowNamed t [101, 114, 114, 111, 114] := List.mem_filter.2 ⟨List.mem_range.2 e3, e4⟩
 rw [etRow] at hx
 obtain rfl := List.mem_singleton.1 hx
 have hh : typeHandle Tryz.prog 33 = .pointer (some ⟨53, 33, none⟩) := by kernel_rfl
 rw [hh] at e5
 simpa using World.var?_cell etAt e5 0
end Go.Proofs.YtidmgckmphcegaaGreatDoor
