/-
  TapNil, walked: a nil tap.
-/
import Derived.Test.YtidmgckmphcegaaGreatDoorMM
namespace Go.Proofs.YtidmgckmphcegaaGreatDoor
open Go.RowKit Go.Proofs.YtidmgckmphcegaaGreatDoorW.PrintWords Go.Proofs.YtidmgckmphcegaaGreatDoorW.PrintLast Go.Proofs.YtidmgckmphcegaaGreatDoor.Px
set_option linter.unusedVariables false
set_option linter.unusedSimpArgs false
set_option maxRecDepth 100000 in
set_option maxHeartbeats 2000000 in
theorem tapNil_walk {sa : Nat → Addr} {w : World} (hE : TE sa w) (A : Option Addr) (n c : Nat) (xs : List Int) (hB : Bs w A n c xs) (hn : n ≤ 140737488355328) (k : Int) :
    Calls Tryz.prog 14 #[.slice A n c, .int .u8 k] w fun e w' => e = .returned (.bool true) ∧ Below w.heap.size w w' := by
  have hbx := hB.byt
  obtain rfl := hB.len
  have HE := Lib.hid hE
  have HB := Lib.hid hB
  have HX := Lib.hid hbx
  clear hE hB hbx
  go_enter Tryz.func14, Tryz.ntmps14
  go_wp2_with fail
  refine (wakes_any HE.out).mono ?_
  rintro e w1 ⟨rfl, hb1⟩
  have HB1 := Lib.hid hb1
  have HQ1 := Lib.hid (HB.out.next hb1)
  clear hb1
  go_wp2_with fail
  refine (tseen_nil k).mono ?_
  rintro e w1 ⟨rfl, rfl⟩
  go_wp2_with (at_builtin; go_loud (refine append_at (w0 := w) rfl _ _ rfl (.slice (some ⟨w1.heap.size, 0, none⟩) 0 0) [] rfl (own_new w1 w.heap.size [] HB1.out.size (by simp)) A xs.length c xs rfl (HQ1.out.next ((Below.refl _ _).alloc (Nat.le_refl _) _)) (by simp <;> omega) (HB1.out.alloc HB1.out.size _) ?_; intro va wa hoa hba hga _; rw [List.nil_append] at hoa; obtain ⟨Aa, ca, rfl, hqa⟩ := Own.bs hoa HX.out; have HBa := Lib.hid hba; clear hoa hba hga hqa))
  refine (tfeed_nil _).mono ?_
  rintro e w2 ⟨rfl, rfl⟩
  go_wp2_with fail
  refine terr_nil.mono ?_
  rintro e w2 ⟨rfl, rfl⟩
  go_wp2_with fail
  go_ret
  exact ⟨rfl, HBa.out⟩
end Go.Proofs.YtidmgckmphcegaaGreatDoor
