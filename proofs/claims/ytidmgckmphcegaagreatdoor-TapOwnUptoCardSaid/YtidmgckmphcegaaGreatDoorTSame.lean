/-
 culvertref04.Same: two frames are one.
-/
import Derived.Test.YtidmgckmphcegaaGreatDoorMD
import Derived.Test.YtidmgckmphcegaaGreatDoorMG
namespace Go.Proofs.YtidmgckmphcegaaGreatDoor
open Go.RowKit Go.Proofs.YtidmgckmphcegaaGreatDoorW.PrintWords Go.Proofs.YtidmgckmphcegaaGreatDoorW.PrintLast
set_option linter.unusedVariables false
set_option linter.unusedSimpArgs false
theorem strOf_inj {xs ys : List Int} (hx : ∀ x ∈ xs, 0 ≤ x ∧ x ≤ 255) (hy : ∀ x ∈ ys, 0 ≤ x ∧ x ≤ 255) (h : strOfNums xs = strOfNums ys) : xs = ys := by
 have h1 : (xs.map fun n => UInt8.ofNat n.toNat) = ys.map fun n => UInt8.ofNat n.toNat := by
  rw [← strOfNums_data, ← strOfNums_data, h]
 clear h
 induction xs generalizing ys with
 | nil => cases ys with | nil => rfl | cons y ys => simp at h1
 | cons x xs ih =>
   cases ys with
   | nil => simp at h1
   | cons y ys =>
     simp only [List.map_cons, List.cons.injEq] at h1
     have hxx := hx x (by simp)
     have hyy := hy y (by simp)
     have e := congrArg UInt8.toNat h1.1
     simp only [UInt8.toNat_ofNat'] at e
     rw [ih (fun z hz => hx z (by simp [hz])) (fun z hz => hy z (by simp [hz])) h1.2]
     congr 1
     omega
def SameTo (P : Prop) (w : World) (e : Ending) (w' : World) : Prop := ∃ bb : Bool, e = .returned (.bool bb) ∧ (bb = true ↔ P) ∧ Below w.heap.size w w'
set_option maxRecDepth 100000 in
set_option maxHeartbeats 1000000 in
theorem same04 {A B : Option Addr} {n c m d : Nat} {xs ys : List Int} {w : World} (ver ty fl st ln ver' ty' fl' st' ln' : Nat) (h1 : Bs w A n c xs) (h2 : Bs w B m d ys) :
    Calls Tryz.prog 22 #[frm ver ty fl st ln A n c, frm ver' ty' fl' st' ln' B m d] w (SameTo (((⟨ver, ty, fl, st, ln⟩ : Hd) = ⟨ver', ty', fl', st', ln'⟩) ∧ xs = ys) w) := by
 have hb : Below w.heap.size w ((w.alloc (.cells #[.int .u8 ver, .int .u8 ty, .int .u16 fl, .int .u32 st, .int .u32 ln, .slice A n c] 28)).alloc (.cells #[.int .u8 ver', .int .u8 ty', .int .u16 fl', .int .u32 st', .int .u32 ln', .slice B m d] 28)) := belowT ba_ ba_
 have s1 := str_of (h1.next hb)
 have s2 := str_of (h2.next hb)
 have b1 := h1.byt
 have b2 := h2.byt
 have HB := Lib.hid hb
 have S1 := Lib.hid s1
 have S2 := Lib.hid s2
 have B1 := Lib.hid b1
 have B2 := Lib.hid b2
 clear h1 h2 hb s1 s2 b1 b2
 go_enter Tryz.func22, Tryz.ntmps22
 go_wp2_with fail
 · obtain rfl : ver = ver' := by omega
   obtain rfl : ty = ty' := by omega
   obtain rfl : fl = fl' := by omega
   obtain rfl : st = st' := by omega
   obtain rfl : ln = ln' := by omega
   rw [S1.out]
   go_wp2_with fail
   rw [S2.out]
   go_wp2_with fail
   go_ret
   refine ⟨((strOfNums xs).toList == (strOfNums ys).toList), rfl, ?_, HB.out⟩
   simp only [beq_iff_eq, true_and]
   constructor
   · intro e
     rw [Lib.toList_data, Lib.toList_data] at e
     exact strOf_inj B1.out B2.out (by
      cases hx : strOfNums xs; cases hy : strOfNums ys
      rw [hx, hy] at e
      congr 1
      exact Array.ext' e)
   · rintro rfl; rfl
 all_goals
  go_ret
  have hf : ¬ (((⟨ver, ty, fl, st, ln⟩ : Hd) = ⟨ver', ty', fl', st', ln'⟩) ∧ xs = ys) := by
   rintro ⟨h, _⟩
   simp only [Hd.mk.injEq] at h
   omega
  exact ⟨false, rfl, ⟨fun h => absurd h (by simp), fun h => absurd h hf⟩, belowT ba_ ba_⟩
end Go.Proofs.YtidmgckmphcegaaGreatDoor
