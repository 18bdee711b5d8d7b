/-
  culvertref05: New, Feed, Held, Wants.
-/
import Derived.Test.YtidmgckmphcegaaGreatDoorTold
import Derived.Test.YtidmgckmphcegaaGreatDoorSameF
namespace Go.Proofs.YtidmgckmphcegaaGreatDoor
open Go.RowKit Go.Proofs.YtidmgckmphcegaaGreatDoorW.PrintWords Go.Proofs.YtidmgckmphcegaaGreatDoorW.PrintLast Go.Proofs.YtidmgckmphcegaaGreatDoorW.PrintMore Go.Proofs.YtidmgckmphcegaaGreatDoor.Px
set_option linter.unusedVariables false
set_option linter.unusedSimpArgs false
theorem told_live {w : World} (most : Int) (A : Option Addr) (n c : Nat) (xs : List Int) (hB : Bs w A n c xs) (m1 : 1 ≤ most) (m2 : most ≤ 65536) (hn : n ≤ 1000000000) (hc : codeX most xs = 0) :
    Calls Tryz.prog 33 #[.agg #[.int .i64 most, .slice A n c]] w fun e w' => ∃ A9 c9, e = .returned (.agg #[.slice A9 (framesX most xs).length c9, .int .i64 (restX most xs).length, .int .i64 0, .int .u32 0]) ∧ (framesX most xs).length ≤ c9 ∧ Kd.F kFr w' (fun k => w.heap.size ≤ k) A9 (framesX most xs).length (framesX most xs) ∧ Below w.heap.size w w' :=
  (say05_any most A n c xs hB m1 m2 hn).mono fun e w' ⟨fv, he, hN, hb⟩ => by
    obtain ⟨A9, c9, rfl, hl, _⟩ := Kd.N_reads hN
    have h1 : whyX most xs = 0 := by unfold whyX; rw [if_pos hc]
    have h2 : stX most xs = 0 := ((cut_left most xs).1 hc).2
    rw [h1, h2] at he
    exact ⟨A9, c9, he, hl, Kd.N_F hN, hb⟩
theorem told_dead {w : World} (most : Int) (A : Option Addr) (n c : Nat) (xs : List Int) (hB : Bs w A n c xs) (m1 : 1 ≤ most) (m2 : most ≤ 65536) (hn : n ≤ 1000000000) (hc : codeX most xs ≠ 0) :
    Calls Tryz.prog 33 #[.agg #[.int .i64 most, .slice A n c]] w fun e w' => ∃ A9 c9, e = .returned (.agg #[.slice A9 (framesX most xs).length c9, .int .i64 0, .int .i64 (whyX most xs), .int .u32 (stX most xs)]) ∧ (framesX most xs).length ≤ c9 ∧ Kd.F kFr w' (fun k => w.heap.size ≤ k) A9 (framesX most xs).length (framesX most xs) ∧ Below w.heap.size w w' :=
  (say05_any most A n c xs hB m1 m2 hn).mono fun e w' ⟨fv, he, hN, hb⟩ => by
    obtain ⟨A9, c9, rfl, hl, _⟩ := Kd.N_reads hN
    rw [restX_dead hc] at he
    exact ⟨A9, c9, he, hl, Kd.N_F hN, hb⟩
theorem rnew_yes (most : Int) (w : World) (m1 : 1 ≤ most) (m2 : most ≤ 65536) :
    Calls Tryz.prog 32 #[.int .i64 most] w fun e w' => e = .returned (.tuple #[.agg #[.int .i64 most, .slice none 0 0], .int .i64 0]) ∧ Below w.heap.size w w' := by
  have h1 : decide (most < 1) = false := by simp; omega
  have h2 : decide (65536 < most) = false := by simp; omega
  go_enter Tryz.func32, Tryz.ntmps32
  go_wp2_with fail
  refine bodyPost_ret (v := .tuple #[.agg #[.int .i64 most, .slice none 0 0], .int .i64 0]) ?_ rfl ⟨rfl, ?_⟩
  · simp [results, Tryz.results32, go_sem]
  · exact (Below.refl _ _).alloc (Nat.le_refl _) _
theorem rnew_no (most : Int) (w : World) (hm : most < 1 ∨ 65536 < most) :
    Calls Tryz.prog 32 #[.int .i64 most] w fun e w' => e = .returned (.tuple #[.agg #[.int .i64 0, .slice none 0 0], .int .i64 2]) ∧ Below w.heap.size w w' := by
  rcases hm with hm | hm
  · have h1 : decide (most < 1) = true := by simp [hm]
    go_enter Tryz.func32, Tryz.ntmps32
    go_wp2_with fail
    refine bodyPost_ret (v := .tuple #[.agg #[.int .i64 0, .slice none 0 0], .int .i64 2]) ?_ rfl ⟨rfl, ?_⟩
    · simp [results, Tryz.results32, go_sem]
    · exact (Below.refl _ _).alloc (Nat.le_refl _) _
  · have h1 : decide (most < 1) = false := by simp; omega
    have h2 : decide (65536 < most) = true := by simp [hm]
    go_enter Tryz.func32, Tryz.ntmps32
    go_wp2_with fail
    refine bodyPost_ret (v := .tuple #[.agg #[.int .i64 0, .slice none 0 0], .int .i64 2]) ?_ rfl ⟨rfl, ?_⟩
    · simp [results, Tryz.results32, go_sem]
    · exact (Below.refl _ _).alloc (Nat.le_refl _) _
theorem cut_suf (most : Int) (xs : List Int) (hc : codeX most xs = 0) : ∃ tl, xs = tl ++ restX most xs := by
  unfold codeX at hc
  unfold restX
  induction hn : xs.length using Nat.strongRecOn generalizing xs with
  | _ n ih =>
    subst hn
    by_cases h12 : xs.length < 12
    · rw [cut_short h12]; exact ⟨[], rfl⟩
    · by_cases hz : chkX most xs = 0
      · by_cases hp : xs.length - 12 < szX xs
        · rw [cut_part h12 hz hp]; exact ⟨[], rfl⟩
        · rw [cut_go h12 hz hp] at hc ⊢
          obtain ⟨tl, h⟩ := ih (xs.drop (12 + szX xs)).length (by simp; omega) (xs.drop (12 + szX xs)) hc rfl
          refine ⟨xs.take (12 + szX xs) ++ tl, ?_⟩
          show xs = xs.take (12 + szX xs) ++ tl ++ (cut most (xs.drop (12 + szX xs))).2.1
          rw [List.append_assoc, ← h, List.take_append_drop]
      · rw [cut_bad h12 hz] at hc
        exact absurd hc hz
/-- What is missing, as the reference counts it. -/
theorem want_r {most : Int} {xs : List Int} (hc : codeX most xs = 0) (h12 : ¬ (restX most xs).length < 12) (m1 : 1 ≤ most) : wantX most xs = D4 (restX most xs) - ((restX most xs).length - 12) := by
  have hR : Rest most (restX most xs) := ((cut_left most xs).1 hc).1
  obtain ⟨h1, h2⟩ := hR.resolve_left h12
  have h0 : D1 (restX most xs) = 0 := by
    by_cases h0 : D1 (restX most xs) = 0
    · exact h0
    · have := (rest_sz m1 h1).2 h0
      omega
  unfold wantX
  rw [if_neg (by simp [hc]), if_neg h12]
  unfold szF
  rw [if_pos h0]
  omega
theorem want_pos' {most : Int} {xs : List Int} (hc : codeX most xs = 0) (m1 : 1 ≤ most) : 1 ≤ wantX most xs ∧ wantX most xs ≤ 12 + most := by
  have hR : Rest most (restX most xs) := ((cut_left most xs).1 hc).1
  unfold wantX
  rw [if_neg (by simp [hc])]
  by_cases h12 : (restX most xs).length < 12
  · rw [if_pos h12]; omega
  · rw [if_neg h12]
    obtain ⟨h1, h2⟩ := hR.resolve_left h12
    have := (rest_sz m1 h1).1
    unfold szX at h2 this
    omega
end Go.Proofs.YtidmgckmphcegaaGreatDoor
