/-
  feed.New and what is seen of a new decoder; FeedNames.
-/
import Derived.Test.YtfddhipdedcacaaDoorGood
import Derived.Test.YtfddhipdedcacaaDoorNum
import Derived.Test.YtfddhipdedcacaaDoorEnc
import Derived.Test.YtfddhipdedcacaaDoorCode
namespace Go.Proofs.YtfddhipdedcacaaDoor
open Go.RowKit
set_option linter.unusedVariables false
set_option linter.unusedSimpArgs false

set_option maxRecDepth 100000 in
theorem new_no {sa : Nat → Addr} {w : World} (hG : Good w sa) (most : Int) (h : most < 1 ∨ 65536 < most) :
    Calls Tryd.prog 21 #[.int .i64 most] w fun e w' => e = .returned (.tuple #[.pointer none, sv (sa 2)]) ∧ Dr w w' := by
  have g2 := (hG.at_ 2 (by omega) (by omega)).glob
  simp only [sgb] at g2
  clear hG
  rcases h with h | h
  all_goals
    go_enter Tryd.func21, Tryd.ntmps21
    go_wp2_with fail
    go_region
    go_wp2_with fail
    go_ret2
    exact ⟨rfl, 1, rfl⟩

set_option maxRecDepth 100000 in
theorem new_yes {w : World} (most : Int) (h1 : 1 ≤ most) (h2 : most ≤ 65536) :
    Calls Tryd.prog 21 #[.int .i64 most] w fun e w' => e = .returned (.tuple #[.pointer (some ⟨w.heap.size, 0, none⟩), .nilIface]) ∧ w'.heap[w.heap.size]? = some (.cells #[.int .i64 most, .slice none 0 0, .pointer none] 94 (0, 0)) ∧ Below w.heap.size w w' := by
  go_enter Tryd.func21, Tryd.ntmps21
  go_wp2_with fail
  go_ret2
  exact ⟨rfl, alloc_at _ _, (Below.refl _ _).alloc (Nat.le_refl _) _⟩

theorem held_any {w : World} (g n c : Nat) (A : Option Addr) (h : w.cell? ⟨g, 1, none⟩ = some (.slice A n c)) :
    Calls Tryd.prog 22 #[.pointer (some ⟨g, 0, none⟩)] w fun e w' => e = .returned (.int .i64 n) ∧ w' = w := by
  go_enter Tryd.func22, Tryd.ntmps22
  go_wp2_with fail
  go_ret
  exact ⟨rfl, rfl⟩
theorem err_nil {w : World} (g : Nat) (h : w.cell? ⟨g, 2, none⟩ = some (.pointer none)) :
    Calls Tryd.prog 24 #[.pointer (some ⟨g, 0, none⟩)] w fun e w' => e = .returned .nilIface ∧ w' = w := by
  go_enter Tryd.func24, Tryd.ntmps24
  go_wp2_with fail
  go_ret
  exact ⟨rfl, rfl⟩
theorem err_some {w : World} (g b o : Nat) (h : w.cell? ⟨g, 2, none⟩ = some (.pointer (some ⟨b, o, none⟩))) :
    Calls Tryd.prog 24 #[.pointer (some ⟨g, 0, none⟩)] w fun e w' => e = .returned (vv b o) ∧ w' = w := by
  go_enter Tryd.func24, Tryd.ntmps24
  go_wp2_with fail
  go_ret
  exact ⟨rfl, rfl⟩
theorem wants_small {w : World} (g n c : Nat) (A : Option Addr) (h1 : w.cell? ⟨g, 1, none⟩ = some (.slice A n c)) (h2 : w.cell? ⟨g, 2, none⟩ = some (.pointer none)) (hn : n < 12) :
    Calls Tryd.prog 23 #[.pointer (some ⟨g, 0, none⟩)] w fun e w' => e = .returned (.int .i64 (12 - n)) ∧ w' = w := by
  go_enter Tryd.func23, Tryd.ntmps23
  go_wp2_with fail
  go_ret
  exact ⟨rfl, rfl⟩
theorem wants_dead {w : World} (g : Nat) (a : Addr) (h2 : w.cell? ⟨g, 2, none⟩ = some (.pointer (some a))) :
    Calls Tryd.prog 23 #[.pointer (some ⟨g, 0, none⟩)] w fun e w' => e = .returned (.int .i64 0) ∧ w' = w := by
  go_enter Tryd.func23, Tryd.ntmps23
  go_wp2_with fail
  go_ret
  exact ⟨rfl, rfl⟩
theorem held_nil {w : World} : Calls Tryd.prog 22 #[.pointer none] w fun e w' => e = .returned (.int .i64 0) ∧ w' = w := by
  go_enter Tryd.func22, Tryd.ntmps22
  go_wp2_with fail
  go_ret
  exact ⟨rfl, rfl⟩
theorem wants_nil {w : World} : Calls Tryd.prog 23 #[.pointer none] w fun e w' => e = .returned (.int .i64 0) ∧ w' = w := by
  go_enter Tryd.func23, Tryd.ntmps23
  go_wp2_with fail
  go_ret
  exact ⟨rfl, rfl⟩
theorem err_nilp {w : World} : Calls Tryd.prog 24 #[.pointer none] w fun e w' => e = .returned .nilIface ∧ w' = w := by
  go_enter Tryd.func24, Tryd.ntmps24
  go_wp2_with fail
  go_ret
  exact ⟨rfl, rfl⟩

set_option maxRecDepth 100000 in
theorem feedNames_walk {sa : Nat → Addr} {w : World} (hG : Good w sa) :
    Calls Tryd.prog 5 #[] w fun e w' => e = .returned (.bool true) ∧ Below w.heap.size w w' := by
  have HG := Lib.hid hG
  clear hG
  go_enter Tryd.func5, Tryd.ntmps5
  go_wp2_with fail
  refine (new_no HG.out 0 (by omega)).mono ?_
  rintro e w1 ⟨rfl, hd1⟩
  have HG1 := Lib.hid (HG.out.below (hd1.below _))
  have HB1 := Lib.hid (hd1.below w.heap.size)
  clear hd1
  go_wp2_with fail
  refine (new_no HG1.out 65537 (by omega)).mono ?_
  rintro e w2 ⟨rfl, hd2⟩
  have HG2 := Lib.hid (HG1.out.below (hd2.below _))
  have HB2 := Lib.hid (HB1.out.trans (hd2.below w.heap.size))
  clear hd2
  go_wp2_with fail
  refine (new_yes 65536 (by omega) (by omega)).mono ?_
  rintro e w3 ⟨rfl, hb3, hd3⟩
  have HG3 := Lib.hid (HG2.out.below hd3)
  have HB3 := Lib.hid (HB2.out.trans (hd3.mono HB2.out.size))
  have HD3 := Lib.hid hb3
  clear hd3 hb3
  go_wp2_with fail
  refine (code_any HG3.out (.inr (.inl ⟨by omega, by omega, rfl⟩) : EV sa w3 2 0 (sv (sa 2)))).mono ?_
  rintro e w4 ⟨rfl, rfl⟩
  go_wp2_with fail
  refine (code_any HG3.out (.inr (.inl ⟨by omega, by omega, rfl⟩) : EV sa w4 2 0 (sv (sa 2)))).mono ?_
  rintro e w5 ⟨rfl, rfl⟩
  go_wp2_with fail
  have c0 := cell_blk (j := 0) HD3.out rfl
  have c1 := cell_blk (j := 1) HD3.out rfl
  have c2 := cell_blk (j := 2) HD3.out rfl
  go_wp2_with fail
  refine (held_any _ 0 0 none c1).mono ?_
  rintro e w6 ⟨rfl, rfl⟩
  go_wp2_with fail
  refine (wants_small _ 0 0 none c1 c2 (by omega)).mono ?_
  rintro e w7 ⟨rfl, rfl⟩
  go_wp2_with fail
  refine (err_nil _ c2).mono ?_
  rintro e w8 ⟨rfl, rfl⟩
  go_wp2_with fail
  go_ret
  exact ⟨rfl, HB3.out⟩
end Go.Proofs.YtfddhipdedcacaaDoor
