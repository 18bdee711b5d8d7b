/-
  The reference's Check.
-/
import Derived.Test.YtfddhipdedcacaaDoorCheck
namespace Go.Proofs.YtfddhipdedcacaaDoor
open Go.RowKit
set_option linter.unusedVariables false
set_option linter.unusedSimpArgs false

theorem rlawful_any (ty fl : Int) (w : World) (h1 : 0 ≤ ty) (h2 : ty < 4) :
    Calls Tryd.prog 51 #[.int .u8 ty, .int .u16 fl] w fun e w' => e = .returned (.bool (lawfulB ty fl)) ∧ w' = w := by
  have hty : ty = 0 ∨ ty = 1 ∨ ty = 2 ∨ ty = 3 := by omega
  rcases hty with rfl | rfl | rfl | rfl
  all_goals
    go_enter Tryd.func51, Tryd.ntmps51
    go_wp2
  all_goals (go_ret; refine ⟨ret_bool ?_, rfl⟩)
  all_goals (try simp only [beq_iff_eq, beq_eq_false_iff_ne] at *)
  all_goals first
    | (subst fl; decide)
    | (unfold lawfulB hasB lawL; simp; omega)
    | (unfold lawfulB hasB lawL; simp [*]; done)
    | (unfold lawfulB hasB lawL; rw [Bool.eq_iff_iff]; simp; done)

set_option maxHeartbeats 1000000 in
theorem rcheck_any (w : World) (ver ty fl st ln most : Int) (h1 : 0 ≤ ty) (h2 : ty ≤ 255) (h3 : 0 ≤ ln) (h4 : ln ≤ 4294967295) :
    Calls Tryd.prog 20 #[.agg #[.int .u8 ver, .int .u8 ty, .int .u16 fl, .int .u32 st, .int .u32 ln], .int .i64 most] w fun e w' => e = .returned (.int .i64 (chk ver ty fl st ln most)) ∧ Below w.heap.size w w' := by
  by_cases hv : ver = 0
  · subst hv
    have hty : ty = 0 ∨ ty = 1 ∨ ty = 2 ∨ ty = 3 ∨ 4 ≤ ty := by omega
    rcases hty with rfl | rfl | rfl | rfl | hty
    · have HL := Lib.hid (rlawful_any 0 fl)
      by_cases hm : most < 0
      all_goals
        go_enter Tryd.func20, Tryd.ntmps20
        go_wp2_with (go_at_call 51; refine (HL.out _ (by omega) (by omega)).mono ?_; rintro e w1 ⟨rfl, rfl⟩)
      all_goals (go_ret; refine ⟨ret_int ?_, (Below.refl _ _).alloc (Nat.le_refl _) _⟩)
      all_goals (try simp only [beq_iff_eq, beq_eq_false_iff_ne, Bool.not_eq_true', Bool.not_eq_false'] at *)
      all_goals (clear HL)
      all_goals (unfold chk; (repeat' split) <;> first | rfl | omega | (simp_all; done))
    · have HL := Lib.hid (rlawful_any 1 fl)
      by_cases hm : most < 0
      all_goals
        go_enter Tryd.func20, Tryd.ntmps20
        go_wp2_with (go_at_call 51; refine (HL.out _ (by omega) (by omega)).mono ?_; rintro e w1 ⟨rfl, rfl⟩)
      all_goals (go_ret; refine ⟨ret_int ?_, (Below.refl _ _).alloc (Nat.le_refl _) _⟩)
      all_goals (try simp only [beq_iff_eq, beq_eq_false_iff_ne, Bool.not_eq_true', Bool.not_eq_false'] at *)
      all_goals (clear HL)
      all_goals (unfold chk; (repeat' split) <;> first | rfl | omega | (simp_all; done))
    · have HL := Lib.hid (rlawful_any 2 fl)
      by_cases hm : most < 0
      all_goals
        go_enter Tryd.func20, Tryd.ntmps20
        go_wp2_with (go_at_call 51; refine (HL.out _ (by omega) (by omega)).mono ?_; rintro e w1 ⟨rfl, rfl⟩)
      all_goals (go_ret; refine ⟨ret_int ?_, (Below.refl _ _).alloc (Nat.le_refl _) _⟩)
      all_goals (try simp only [beq_iff_eq, beq_eq_false_iff_ne, Bool.not_eq_true', Bool.not_eq_false'] at *)
      all_goals (clear HL)
      all_goals (unfold chk; (repeat' split) <;> first | rfl | omega | (simp_all; done))
    · have HL := Lib.hid (rlawful_any 3 fl)
      by_cases hm : most < 0
      all_goals
        go_enter Tryd.func20, Tryd.ntmps20
        go_wp2_with (go_at_call 51; refine (HL.out _ (by omega) (by omega)).mono ?_; rintro e w1 ⟨rfl, rfl⟩)
      all_goals (go_ret; refine ⟨ret_int ?_, (Below.refl _ _).alloc (Nat.le_refl _) _⟩)
      all_goals (try simp only [beq_iff_eq, beq_eq_false_iff_ne, Bool.not_eq_true', Bool.not_eq_false'] at *)
      all_goals (clear HL)
      all_goals (unfold chk; (repeat' split) <;> first | rfl | omega | (simp_all; done))
    · by_cases hm : most < 0
      all_goals
        go_enter Tryd.func20, Tryd.ntmps20
        go_wp2
        go_ret
        exact ⟨ret_int (by unfold chk; rw [if_neg (by omega), if_pos (by omega)]; rfl), (Below.refl _ _).alloc (Nat.le_refl _) _⟩
  · by_cases hm : most < 0
    all_goals
      go_enter Tryd.func20, Tryd.ntmps20
      go_wp2
      go_ret
      exact ⟨ret_int (by unfold chk; rw [if_pos (by omega)]; rfl), (Below.refl _ _).alloc (Nat.le_refl _) _⟩
end Go.Proofs.YtfddhipdedcacaaDoor
