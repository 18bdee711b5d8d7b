/-
  FrameWrites, walked.
-/
import Derived.Test.YtfddhipdedcacaaDoorRBts
import Derived.Test.YtfddhipdedcacaaDoorSame
import Derived.Test.YtfddhipdedcacaaDoorRText
import Derived.Test.YtfddhipdedcacaaDoorAwake4
import Derived.Test.YtfddhipdedcacaaDoorCode
namespace Go.Proofs.YtfddhipdedcacaaDoor
open Go.RowKit Go.Proofs.YtfddhipdedcacaaDoorW.PrintLast
set_option linter.unusedVariables false
set_option linter.unusedSimpArgs false
theorem enc_byt {ver ty fl st ln : Int} (v0 : 0 ≤ ver) (v1 : ver ≤ 255) (t0 : 0 ≤ ty) (t1 : ty ≤ 255) (f0 : 0 ≤ fl) (f1 : fl ≤ 65535) (s0 : 0 ≤ st) (s1 : st ≤ 4294967295) (l0 : 0 ≤ ln) (l1 : ln ≤ 4294967295) : ∀ x ∈ enc ver ty fl st ln, 0 ≤ x ∧ x ≤ 255 := by
  intro x hx
  simp only [enc, List.mem_cons, List.not_mem_nil, or_false] at hx
  rcases hx with rfl | rfl | rfl | rfl | rfl | rfl | rfl | rfl | rfl | rfl | rfl | rfl <;> omega
/-- A header's numbers, in their kinds' bounds. -/
structure HdIn (ver ty fl st ln : Int) : Prop where
  v0 : 0 ≤ ver
  v1 : ver ≤ 255
  t0 : 0 ≤ ty
  t1 : ty ≤ 255
  f0 : 0 ≤ fl
  f1 : fl ≤ 65535
  s0 : 0 ≤ st
  s1 : st ≤ 4294967295
  l0 : 0 ≤ ln
  l1 : ln ≤ 4294967295
theorem same_eq {w : World} {A B : Option Addr} {n c m d : Nat} {xs : List Int} (hx : Bs w A n c xs) (hy : Bs w B m d xs) :
    Calls Tryd.prog 41 #[.slice A n c, .slice B m d] w fun e w' => e = .returned (.bool true) ∧ w' = w := by
  have h := same_any hx hy
  rwa [beq_self_eq_true] at h
theorem own_bs12 {w : World} {base g : Nat} {xs : List Int} (h : w.ownsRow base 5 1 (.slice (some ⟨g, 0, none⟩) 12 12) 12 (nums .u8 xs)) (hx : ∀ x ∈ xs, 0 ≤ x ∧ x ≤ 255) (hl : xs.length = 12) : Bs w (some ⟨g, 0, none⟩) 12 12 xs := row_bs h hx hl (by omega)
/-- What stays as the law runs: the laid variables, the frame's bytes. -/
structure FS (sa : Nat → Addr) (A : Option Addr) (n c : Nat) (xs : List Int) (w : World) : Prop where
  good : Good w sa
  law : Lawful w
  pow : Pow10 w
  words : Words w
  bs : Bs w A n c xs
theorem FS.up {sa : Nat → Addr} {A : Option Addr} {n c : Nat} {xs : List Int} {w : World} (hG : Good w sa) (hL : Lawful w) (hP : Pow10 w) (hW : Words w) (hB : Bs w A n c xs) : Up w (FS sa A n c xs) :=
  fun w' hb => ⟨hG.below hb, hL.below hb, hP.below hb, hW.below hb, hB.next hb⟩
/-- The boxed frame. -/
def Bx (g : Nat) (ver ty fl st ln : Int) (A : Option Addr) (n c : Nat) (w : World) : Prop :=
  w.cell? ⟨g, 0, none⟩ = some (.int .u8 ver) ∧ w.cell? ⟨g, 1, none⟩ = some (.int .u8 ty) ∧ w.cell? ⟨g, 2, none⟩ = some (.int .u16 fl) ∧ w.cell? ⟨g, 3, none⟩ = some (.int .u32 st) ∧ w.cell? ⟨g, 4, none⟩ = some (.int .u32 ln) ∧ w.cell? ⟨g, 5, none⟩ = some (.slice A n c)
theorem Bx.next {g : Nat} {ver ty fl st ln : Int} {A : Option Addr} {n c : Nat} {w w' : World} (h : Bx g ver ty fl st ln A n c w) (hb : Below w.heap.size w w') : Bx g ver ty fl st ln A n c w' := ⟨keepA hb h.1, keepA hb h.2.1, keepA hb h.2.2.1, keepA hb h.2.2.2.1, keepA hb h.2.2.2.2.1, keepA hb h.2.2.2.2.2⟩
theorem Bx.new (ver ty fl st ln : Int) (A : Option Addr) (n c : Nat) (w : World) : Bx w.heap.size ver ty fl st ln A n c (w.alloc (.cells #[.int .u8 ver, .int .u8 ty, .int .u16 fl, .int .u32 st, .int .u32 ln, .slice A n c] 45)) :=
  ⟨cell_blk (alloc_at _ _) rfl, cell_blk (alloc_at _ _) rfl, cell_blk (alloc_at _ _) rfl, cell_blk (alloc_at _ _) rfl, cell_blk (alloc_at _ _) rfl, cell_blk (alloc_at _ _) rfl⟩
theorem bs_nil (w : World) : Bs w none 0 0 [] := ⟨rfl, Nat.le_refl _, by omega, (fun x hx => by cases hx), fun _ => ⟨rfl, rfl⟩, fun h => absurd h (by omega)⟩
set_option maxRecDepth 100000 in
set_option maxHeartbeats 1000000 in
theorem frameWrites_walk {sa : Nat → Addr} {w : World} (hG : Good w sa) (hL : Lawful w) (hP : Pow10 w) (hW : Words w) (ver ty fl st ln : Nat) (A : Option Addr) (n c : Nat) (xs : List Int) (hB : Bs w A n c xs) (hI : HdIn ver ty fl st ln) (hn : n ≤ 140737488351232) :
    Calls Tryd.prog 15 #[frm ver ty fl st ln A n c] w fun e w' => e = .returned (.bool true) ∧ Below w.heap.size w w' := by
  have HU := Lib.hid (FS.up hG hL hP hW hB)
  have v0 := hI.v0
  have v1 := hI.v1
  have t0 := hI.t0
  have t1 := hI.t1
  have f0 := hI.f0
  have f1 := hI.f1
  have s0 := hI.s0
  have s1 := hI.s1
  have l0 := hI.l0
  have l1 := hI.l1
  obtain rfl := hB.len
  have hxb := Lib.hid hB.byt
  have HN := Lib.hid (enc_byt v0 v1 t0 t1 f0 f1 s0 s1 l0 l1)
  clear hG hL hP hW hB hI
  obtain ⟨w1, hw1⟩ : ∃ w1, w1 = w.alloc (.cells #[.int .u8 ver, .int .u8 ty, .int .u16 fl, .int .u32 st, .int .u32 ln, .slice A xs.length c] 45) := ⟨_, rfl⟩
  have HB1 := Lib.hid (show Below w.heap.size w w1 by rw [hw1]; exact (Below.refl _ _).alloc (Nat.le_refl _) _)
  have HX1 := Lib.hid (show Bx w.heap.size ver ty fl st ln A xs.length c w1 by rw [hw1]; exact Bx.new _ _ _ _ _ _ _ _ _)
  have HE := Lib.hid hw1
  clear hw1
  have HU1 := Lib.hid (HU.out.next HB1.out)
  go_enter Tryd.func15, Tryd.ntmps15
  go_wp2_with fail
  rw [← HE.out]
  refine (awake4 HU1.out.now.good HU1.out.now.law).mono ?_
  rintro e w2 ⟨rfl, hb2⟩
  have HU2 := Lib.hid (HU1.out.next hb2)
  have HX2 := Lib.hid (HX1.out.next hb2)
  have HB2 := Lib.hid (belowT HB1.out hb2)
  clear hb2
  go_wp2_with fail
  refine start_ (n := 26) (S := fun w' => w'.cell? ⟨w.heap.size, 0, none⟩ = some (.int .u8 ver) ∧ w'.cell? ⟨w.heap.size, 1, none⟩ = some (.int .u8 ty) ∧ w'.cell? ⟨w.heap.size, 2, none⟩ = some (.int .u16 fl) ∧ w'.cell? ⟨w.heap.size, 3, none⟩ = some (.int .u32 st) ∧ w'.cell? ⟨w.heap.size, 4, none⟩ = some (.int .u32 ln) ∧ Hid (Below w2.heap.size w2 w')) (ds := []) #[false, false, false, false, false, false, false, false, false, false, false, false, false, false, false, false, false, false, false, false, false, false, false, false, false, false] (by kernel_rfl) rfl rfl (⟨HX2.out.1, HX2.out.2.1, HX2.out.2.2.1, HX2.out.2.2.2.1, HX2.out.2.2.2.2.1, Lib.hid (Below.refl _ _).drew⟩) (fun hHeld => ?_)
  refine pure_ (i := 0) (N := some 9) (v := ?_) (a' := ?_) #[true, false, false, false, false, false, false, false, false, false, false, false, false, false, false, false, false, false, false, false, false, false, false, false, false, false] rfl rfl (by kernel_rfl) (fun _ _ _ h => h) (Or.inl ⟨by rfl, ?_⟩) ?_ ?_
  rotate_left
  · intro w'
    go_simp
    with_reducible rfl
  rotate_left
  · simp only [Act.put, List.setIfInBounds_toArray, List.set_cons_zero, List.set_cons_succ, i64_w, i32_w]
    rfl
  refine pure_ (i := 3) (N := some 12) (v := ?_) (a' := ?_) #[true, false, false, true, false, false, false, false, false, false, false, false, false, false, false, false, false, false, false, false, false, false, false, false, false, false] rfl rfl (by kernel_rfl) (fun _ _ _ h => h) (Or.inl ⟨by rfl, ?_⟩) ?_ ?_
  rotate_left
  · intro w'
    go_simp
    with_reducible rfl
  rotate_left
  · simp only [Act.put, List.setIfInBounds_toArray, List.set_cons_zero, List.set_cons_succ, i64_w, i32_w]
    rfl
  refine take_ (i := 1) (N := some 10) (v := ?_) (a' := ?_) #[true, true, false, true, false, false, false, false, false, false, false, false, false, false, false, false, false, false, false, false, false, false, false, false, false, false] rfl rfl (by kernel_rfl) (fun _ _ _ h => h) (Or.inl ⟨by rfl, ?_⟩) hHeld ?_ ?_
  rotate_left
  · rintro w' ⟨s0, s1, s2, s3, s4, s5⟩
    go_simp
    with_reducible rfl
  rotate_left
  · simp only [Act.put, List.setIfInBounds_toArray, List.set_cons_zero, List.set_cons_succ, i64_w, i32_w]
    rfl
  refine take_ (i := 4) (N := some 13) (v := ?_) (a' := ?_) #[true, true, false, true, true, false, false, false, false, false, false, false, false, false, false, false, false, false, false, false, false, false, false, false, false, false] rfl rfl (by kernel_rfl) (fun _ _ _ h => h) (Or.inl ⟨by rfl, ?_⟩) hHeld ?_ ?_
  rotate_left
  · rintro w' ⟨s0, s1, s2, s3, s4, s5⟩
    go_simp
    with_reducible rfl
  rotate_left
  · simp only [Act.put, List.setIfInBounds_toArray, List.set_cons_zero, List.set_cons_succ, i64_w, i32_w]
    rfl
  refine one_ (i := 2) (N := some 11) #[true, true, true, true, true, false, false, false, false, false, false, false, false, false, false, false, false, false, false, false, false, false, false, false, false, false] rfl rfl (by kernel_rfl) (by decide) (fun K hK => ?_)
  refine goes_ Tryd.func28 (by kernel_rfl) rfl #[hdr ver ty fl st ln] (by rfl) rfl rfl (by simp only [List.map_toArray, List.map_cons, List.map_nil]; rfl) ?_
  with_reducible refine (encode_any ver ty fl st ln _ f0 f1 s0 s1 l0 l1).mono ?_
  rintro e w3 ⟨g3, rfl, ho3, hb3⟩
  refine ⟨_, rfl, ?_⟩
  have HQ3 := Lib.hid (own_bs12 ho3 HN.out rfl)
  have HB3 := Lib.hid hb3
  clear ho3 hb3
  refine hK.out _ _ (⟨keepA HB3.out hHeld.1, keepA HB3.out hHeld.2.1, keepA HB3.out hHeld.2.2.1, keepA HB3.out hHeld.2.2.2.1, keepA HB3.out hHeld.2.2.2.2.1, Lib.hid (belowT hHeld.2.2.2.2.2.out HB3.out)⟩) (fun hHeld => ?_)
  clear hK K
  refine norm_ (a' := ?_) ?_ ?_
  rotate_left
  · show Act.put _ (some 11) _ = _
    simp only [Act.put, List.setIfInBounds_toArray, List.set_cons_zero, List.set_cons_succ, i64_w, i32_w]
    rfl
  refine one_ (i := 5) (N := some 14) #[true, true, true, true, true, true, false, false, false, false, false, false, false, false, false, false, false, false, false, false, false, false, false, false, false, false] rfl rfl (by kernel_rfl) (by decide) (fun K hK => ?_)
  refine goes_ Tryd.func42 (by kernel_rfl) rfl #[hdr ver ty fl st ln] (by rfl) rfl rfl (by simp only [List.map_toArray, List.map_cons, List.map_nil]; rfl) ?_
  with_reducible refine (rencode_any ver ty fl st ln _ v0 v1 t0 t1 f0 f1 s0 s1 l0 l1).mono ?_
  rintro e w4 ⟨v4, rfl, ho4, hb4⟩
  refine ⟨_, rfl, ?_⟩
  have HQ4 := Lib.hid (HQ3.out.next hb4)
  have HB4 := Lib.hid hb4
  obtain ⟨A4, c4, rfl, hq4⟩ := Own.bs ho4 HN.out
  have HR4 := Lib.hid hq4
  clear ho4 hb4 hq4
  refine hK.out _ _ (⟨keepA HB4.out hHeld.1, keepA HB4.out hHeld.2.1, keepA HB4.out hHeld.2.2.1, keepA HB4.out hHeld.2.2.2.1, keepA HB4.out hHeld.2.2.2.2.1, Lib.hid (belowT hHeld.2.2.2.2.2.out HB4.out)⟩) (fun hHeld => ?_)
  clear hK K
  refine norm_ (a' := ?_) ?_ ?_
  rotate_left
  · show Act.put _ (some 14) _ = _
    simp only [Act.put, List.setIfInBounds_toArray, List.set_cons_zero, List.set_cons_succ, i64_w, i32_w]
    rfl
  refine one_ (i := 6) (N := some 15) #[true, true, true, true, true, true, true, false, false, false, false, false, false, false, false, false, false, false, false, false, false, false, false, false, false, false] rfl rfl (by kernel_rfl) (by decide) (fun K hK => ?_)
  refine goes_ Tryd.func41 (by kernel_rfl) rfl #[.slice (some ⟨g3, 0, none⟩) 12 12, .slice A4 (enc (ver : Int) ty fl st ln).length c4] (by rfl) rfl rfl (by simp only [List.map_toArray, List.map_cons, List.map_nil]; rfl) ?_
  with_reducible refine (same_eq HQ4.out HR4.out).mono ?_
  rintro e w5 ⟨rfl, rfl⟩
  refine ⟨_, rfl, ?_⟩
  refine hK.out _ _ (hHeld) (fun hHeld => ?_)
  clear hK K
  refine norm_ (a' := ?_) ?_ ?_
  rotate_left
  · show Act.put _ (some 15) _ = _
    simp only [Act.put, List.setIfInBounds_toArray, List.set_cons_zero, List.set_cons_succ, i64_w, i32_w]
    rfl
  refine pure_ (i := 7) (N := some 16) (v := ?_) (a' := ?_) #[true, true, true, true, true, true, true, true, false, false, false, false, false, false, false, false, false, false, false, false, false, false, false, false, false, false] rfl rfl (by kernel_rfl) (fun _ _ _ h => h) (Or.inl ⟨by rfl, ?_⟩) ?_ ?_
  rotate_left
  · intro w'
    go_simp
    with_reducible rfl
  rotate_left
  · simp only [Act.put, List.setIfInBounds_toArray, List.set_cons_zero, List.set_cons_succ, i64_w, i32_w]
    rfl
  refine pure_ (i := 8) (N := some 17) (v := ?_) (a' := ?_) #[true, true, true, true, true, true, true, true, true, false, false, false, false, false, false, false, false, false, false, false, false, false, false, false, false, false] rfl rfl (by kernel_rfl) (fun _ _ _ h => h) (Or.inl ⟨by rfl, ?_⟩) ?_ ?_
  rotate_left
  · intro w'
    go_simp
    with_reducible rfl
  rotate_left
  · simp only [Act.put, List.setIfInBounds_toArray, List.set_cons_zero, List.set_cons_succ, i64_w, i32_w]
    rfl
  refine pure_ (i := 9) (N := some 18) (v := ?_) (a' := ?_) #[true, true, true, true, true, true, true, true, true, true, false, false, false, false, false, false, false, false, false, false, false, false, false, false, false, false] rfl rfl (by kernel_rfl) (fun _ _ _ h => h) (Or.inl ⟨by rfl, ?_⟩) ?_ ?_
  rotate_left
  · intro w'
    go_simp
    with_reducible rfl
  rotate_left
  · simp only [Act.put, List.setIfInBounds_toArray, List.set_cons_zero, List.set_cons_succ, i64_w, i32_w]
    rfl
  refine pure_ (i := 12) (N := some 21) (v := ?_) (a' := ?_) #[true, true, true, true, true, true, true, true, true, true, false, false, true, false, false, false, false, false, false, false, false, false, false, false, false, false] rfl rfl (by kernel_rfl) (fun _ _ _ h => h) (Or.inl ⟨by rfl, ?_⟩) ?_ ?_
  rotate_left
  · intro w'
    go_simp
    with_reducible rfl
  rotate_left
  · simp only [Act.put, List.setIfInBounds_toArray, List.set_cons_zero, List.set_cons_succ, i64_w, i32_w]
    rfl
  refine take_ (i := 10) (N := some 19) (v := ?_) (a' := ?_) #[true, true, true, true, true, true, true, true, true, true, true, false, true, false, false, false, false, false, false, false, false, false, false, false, false, false] rfl rfl (by kernel_rfl) (fun _ _ _ h => h) (Or.inl ⟨by rfl, ?_⟩) hHeld ?_ ?_
  rotate_left
  · rintro w' ⟨s0, s1, s2, s3, s4, s5⟩
    go_simp
    with_reducible rfl
  rotate_left
  · simp only [Act.put, List.setIfInBounds_toArray, List.set_cons_zero, List.set_cons_succ, i64_w, i32_w]
    rfl
  refine take_ (i := 13) (N := some 22) (v := ?_) (a' := ?_) #[true, true, true, true, true, true, true, true, true, true, true, false, true, true, false, false, false, false, false, false, false, false, false, false, false, false] rfl rfl (by kernel_rfl) (fun _ _ _ h => h) (Or.inl ⟨by rfl, ?_⟩) hHeld ?_ ?_
  rotate_left
  · rintro w' ⟨s0, s1, s2, s3, s4, s5⟩
    go_simp
    with_reducible rfl
  rotate_left
  · simp only [Act.put, List.setIfInBounds_toArray, List.set_cons_zero, List.set_cons_succ, i64_w, i32_w]
    rfl
  refine one_ (i := 11) (N := some 20) #[true, true, true, true, true, true, true, true, true, true, true, true, true, true, false, false, false, false, false, false, false, false, false, false, false, false] rfl rfl (by kernel_rfl) (by decide) (fun K hK => ?_)
  refine goes_ Tryd.func43 (by kernel_rfl) rfl #[hdr ver ty fl st ln] (by rfl) rfl rfl (by simp only [List.map_toArray, List.map_cons, List.map_nil]; rfl) ?_
  with_reducible refine (size_any ver ty fl st ln _ l0 l1).mono ?_
  rintro e w6 ⟨rfl, hb6⟩
  refine ⟨_, rfl, ?_⟩
  have HB6 := Lib.hid hb6
  clear hb6
  refine hK.out _ _ (⟨keepA HB6.out hHeld.1, keepA HB6.out hHeld.2.1, keepA HB6.out hHeld.2.2.1, keepA HB6.out hHeld.2.2.2.1, keepA HB6.out hHeld.2.2.2.2.1, Lib.hid (belowT hHeld.2.2.2.2.2.out HB6.out)⟩) (fun hHeld => ?_)
  clear hK K
  refine norm_ (a' := ?_) ?_ ?_
  rotate_left
  · show Act.put _ (some 20) _ = _
    simp only [Act.put, List.setIfInBounds_toArray, List.set_cons_zero, List.set_cons_succ, i64_w, i32_w]
    rfl
  refine one_ (i := 14) (N := some 23) #[true, true, true, true, true, true, true, true, true, true, true, true, true, true, true, false, false, false, false, false, false, false, false, false, false, false] rfl rfl (by kernel_rfl) (by decide) (fun K hK => ?_)
  refine goes_ Tryd.func44 (by kernel_rfl) rfl #[hdr ver ty fl st ln] (by rfl) rfl rfl (by simp only [List.map_toArray, List.map_cons, List.map_nil]; rfl) ?_
  with_reducible refine (rsize_any ver ty fl st ln _ l0 l1).mono ?_
  rintro e w7 ⟨rfl, hb7⟩
  refine ⟨_, rfl, ?_⟩
  have HB7 := Lib.hid hb7
  clear hb7
  refine hK.out _ _ (⟨keepA HB7.out hHeld.1, keepA HB7.out hHeld.2.1, keepA HB7.out hHeld.2.2.1, keepA HB7.out hHeld.2.2.2.1, keepA HB7.out hHeld.2.2.2.2.1, Lib.hid (belowT hHeld.2.2.2.2.2.out HB7.out)⟩) (fun hHeld => ?_)
  clear hK K
  refine norm_ (a' := ?_) ?_ ?_
  rotate_left
  · show Act.put _ (some 23) _ = _
    simp only [Act.put, List.setIfInBounds_toArray, List.set_cons_zero, List.set_cons_succ, i64_w, i32_w]
    rfl
  refine pure_ (i := 15) (N := some 24) (v := ?_) (a' := ?_) #[true, true, true, true, true, true, true, true, true, true, true, true, true, true, true, true, false, false, false, false, false, false, false, false, false, false] rfl rfl (by kernel_rfl) (fun _ _ _ h => h) (Or.inl ⟨by rfl, ?_⟩) ?_ ?_
  rotate_left
  · intro w'
    go_simp
    with_reducible rfl
  rotate_left
  · simp only [Act.put, List.setIfInBounds_toArray, List.set_cons_zero, List.set_cons_succ, i64_w, i32_w]
    rfl
  refine pure_ (i := 16) (N := some 25) (v := ?_) (a' := ?_) #[true, true, true, true, true, true, true, true, true, true, true, true, true, true, true, true, true, false, false, false, false, false, false, false, false, false] rfl rfl (by kernel_rfl) (fun _ _ _ h => h) (Or.inl ⟨by rfl, ?_⟩) ?_ ?_
  rotate_left
  · intro w'
    go_simp
    with_reducible rfl
  rotate_left
  · simp only [Act.put, List.setIfInBounds_toArray, List.set_cons_zero, List.set_cons_succ, i64_w, i32_w]
    rfl
  refine pure_ (i := 17) (N := some 26) (v := ?_) (a' := ?_) #[true, true, true, true, true, true, true, true, true, true, true, true, true, true, true, true, true, true, false, false, false, false, false, false, false, false] rfl rfl (by kernel_rfl) (fun _ _ _ h => h) (Or.inl ⟨by rfl, ?_⟩) ?_ ?_
  rotate_left
  · intro w'
    go_simp
    with_reducible rfl
  rotate_left
  · simp only [Act.put, List.setIfInBounds_toArray, List.set_cons_zero, List.set_cons_succ, i64_w, i32_w]
    rfl
  refine pure_ (i := 18) (N := some 27) (v := ?_) (a' := ?_) #[true, true, true, true, true, true, true, true, true, true, true, true, true, true, true, true, true, true, true, false, false, false, false, false, false, false] rfl rfl (by kernel_rfl) (fun _ _ _ h => h) (Or.inl ⟨by rfl, ?_⟩) ?_ ?_
  rotate_left
  · intro w'
    go_simp
    with_reducible rfl
  rotate_left
  · simp only [Act.put, List.setIfInBounds_toArray, List.set_cons_zero, List.set_cons_succ, i64_w, i32_w]
    rfl
  refine pure_ (i := 21) (N := some 30) (v := ?_) (a' := ?_) #[true, true, true, true, true, true, true, true, true, true, true, true, true, true, true, true, true, true, true, false, false, true, false, false, false, false] rfl rfl (by kernel_rfl) (fun _ _ _ h => h) (Or.inl ⟨by rfl, ?_⟩) ?_ ?_
  rotate_left
  · intro w'
    go_simp
    with_reducible rfl
  rotate_left
  · simp only [Act.put, List.setIfInBounds_toArray, List.set_cons_zero, List.set_cons_succ, i64_w, i32_w]
    rfl
  refine take_ (i := 19) (N := some 28) (v := ?_) (a' := ?_) #[true, true, true, true, true, true, true, true, true, true, true, true, true, true, true, true, true, true, true, true, false, true, false, false, false, false] rfl rfl (by kernel_rfl) (fun _ _ _ h => h) (Or.inl ⟨by rfl, ?_⟩) hHeld ?_ ?_
  rotate_left
  · rintro w' ⟨s0, s1, s2, s3, s4, s5⟩
    go_simp
    with_reducible rfl
  rotate_left
  · simp only [Act.put, List.setIfInBounds_toArray, List.set_cons_zero, List.set_cons_succ, i64_w, i32_w]
    rfl
  refine take_ (i := 22) (N := some 31) (v := ?_) (a' := ?_) #[true, true, true, true, true, true, true, true, true, true, true, true, true, true, true, true, true, true, true, true, false, true, true, false, false, false] rfl rfl (by kernel_rfl) (fun _ _ _ h => h) (Or.inl ⟨by rfl, ?_⟩) hHeld ?_ ?_
  rotate_left
  · rintro w' ⟨s0, s1, s2, s3, s4, s5⟩
    go_simp
    with_reducible rfl
  rotate_left
  · simp only [Act.put, List.setIfInBounds_toArray, List.set_cons_zero, List.set_cons_succ, i64_w, i32_w]
    rfl
  refine one_ (i := 20) (N := some 29) #[true, true, true, true, true, true, true, true, true, true, true, true, true, true, true, true, true, true, true, true, true, true, true, false, false, false] rfl rfl (by kernel_rfl) (by decide) (fun K hK => ?_)
  refine goes_ Tryd.func45 (by kernel_rfl) rfl #[hdr ver ty fl st ln] (by rfl) rfl rfl (by simp only [List.map_toArray, List.map_cons, List.map_nil]; rfl) ?_
  with_reducible refine (text_any ver ty fl st ln _ (by omega) (by omega) (by omega) (by omega) (by omega) (HU2.out.at_ hHeld.2.2.2.2.2.out).pow (HU2.out.at_ hHeld.2.2.2.2.2.out).words).mono ?_
  rintro e w8 ⟨rfl, hb8⟩
  refine ⟨_, rfl, ?_⟩
  have HB8 := Lib.hid hb8
  clear hb8
  refine hK.out _ _ (⟨keepA HB8.out hHeld.1, keepA HB8.out hHeld.2.1, keepA HB8.out hHeld.2.2.1, keepA HB8.out hHeld.2.2.2.1, keepA HB8.out hHeld.2.2.2.2.1, Lib.hid (belowT hHeld.2.2.2.2.2.out HB8.out)⟩) (fun hHeld => ?_)
  clear hK K
  refine norm_ (a' := ?_) ?_ ?_
  rotate_left
  · show Act.put _ (some 29) _ = _
    simp only [Act.put, List.setIfInBounds_toArray, List.set_cons_zero, List.set_cons_succ, i64_w, i32_w]
    rfl
  refine one_ (i := 23) (N := some 32) #[true, true, true, true, true, true, true, true, true, true, true, true, true, true, true, true, true, true, true, true, true, true, true, true, false, false] rfl rfl (by kernel_rfl) (by decide) (fun K hK => ?_)
  refine goes_ Tryd.func46 (by kernel_rfl) rfl #[hdr ver ty fl st ln] (by rfl) rfl rfl (by simp only [List.map_toArray, List.map_cons, List.map_nil]; rfl) ?_
  with_reducible refine (rtext_any ver ty fl st ln _ (by omega) (by omega) (by omega) (by omega) (by omega)).mono ?_
  rintro e w9 ⟨rfl, hb9⟩
  refine ⟨_, rfl, ?_⟩
  have HB9 := Lib.hid hb9
  clear hb9
  refine hK.out _ _ (⟨keepA HB9.out hHeld.1, keepA HB9.out hHeld.2.1, keepA HB9.out hHeld.2.2.1, keepA HB9.out hHeld.2.2.2.1, keepA HB9.out hHeld.2.2.2.2.1, Lib.hid (belowT hHeld.2.2.2.2.2.out HB9.out)⟩) (fun hHeld => ?_)
  clear hK K
  refine norm_ (a' := ?_) ?_ ?_
  rotate_left
  · show Act.put _ (some 32) _ = _
    simp only [Act.put, List.setIfInBounds_toArray, List.set_cons_zero, List.set_cons_succ, i64_w, i32_w]
    rfl
  refine pure_ (i := 24) (N := some 33) (v := ?_) (a' := ?_) #[true, true, true, true, true, true, true, true, true, true, true, true, true, true, true, true, true, true, true, true, true, true, true, true, true, false] rfl rfl (by kernel_rfl) (fun _ _ _ h => h) (Or.inl ⟨by rfl, ?_⟩) ?_ ?_
  rotate_left
  · intro w'
    go_simp
    with_reducible rfl
  rotate_left
  · simp only [Act.put, List.setIfInBounds_toArray, List.set_cons_zero, List.set_cons_succ, i64_w, i32_w]
    rfl
  refine pure_ (i := 25) (N := some 34) (v := ?_) (a' := ?_) #[true, true, true, true, true, true, true, true, true, true, true, true, true, true, true, true, true, true, true, true, true, true, true, true, true, true] rfl rfl (by kernel_rfl) (fun _ _ _ h => h) (Or.inl ⟨by rfl, ?_⟩) ?_ ?_
  rotate_left
  · intro w'
    go_simp
    with_reducible rfl
  rotate_left
  · simp only [Act.put, List.setIfInBounds_toArray, List.set_cons_zero, List.set_cons_succ, i64_w, i32_w]
    rfl
  refine done_ (by kernel_rfl) ?_
  have HB9w := Lib.hid (belowT HB2.out hHeld.2.2.2.2.2.out)
  have HU9 := Lib.hid (HU2.out.next hHeld.2.2.2.2.2.out)
  have HX9 := Lib.hid (HX2.out.next hHeld.2.2.2.2.2.out)
  obtain ⟨zs, hzs⟩ : ∃ zs, zs = enc ver ty fl st ln ++ xs := ⟨_, rfl⟩
  have HNx := Lib.hid (show ∀ x ∈ zs, 0 ≤ x ∧ x ≤ 255 by rw [hzs]; exact fun x hx => (List.mem_append.1 hx).elim (HN.out x) (hxb.out x))
  have HZ := Lib.hid hzs
  clear hzs
  clear hHeld HQ3 HQ4 HR4 HB3 HB4 HB6 HB7 HB8 HB9 HU1 HX1 HU2 HX2 HB1 HB2
  by_cases hne : (xs.length : Int) = szF ty ln
  · go_wp2_with fail
    refine start_ (n := 13) (S := fun w' => w'.cell? ⟨w.heap.size, 0, none⟩ = some (.int .u8 ver) ∧ w'.cell? ⟨w.heap.size, 1, none⟩ = some (.int .u8 ty) ∧ w'.cell? ⟨w.heap.size, 2, none⟩ = some (.int .u16 fl) ∧ w'.cell? ⟨w.heap.size, 3, none⟩ = some (.int .u32 st) ∧ w'.cell? ⟨w.heap.size, 4, none⟩ = some (.int .u32 ln) ∧ w'.cell? ⟨w.heap.size, 5, none⟩ = some (.slice A xs.length c) ∧ Hid (Below w9.heap.size w9 w')) (ds := []) #[false, false, false, false, false, false, false, false, false, false, false, false, false] (by kernel_rfl) rfl rfl (⟨HX9.out.1, HX9.out.2.1, HX9.out.2.2.1, HX9.out.2.2.2.1, HX9.out.2.2.2.2.1, HX9.out.2.2.2.2.2, Lib.hid (Below.refl _ _).drew⟩) (fun hHeld => ?_)
    refine pure_ (i := 0) (N := some 36) (v := ?_) (a' := ?_) #[true, false, false, false, false, false, false, false, false, false, false, false, false] rfl rfl (by kernel_rfl) (fun _ _ _ h => h) (Or.inl ⟨by rfl, ?_⟩) ?_ ?_
    rotate_left
    · intro w'
      go_simp
      with_reducible rfl
    rotate_left
    · simp only [Act.put, List.setIfInBounds_toArray, List.set_cons_zero, List.set_cons_succ, i64_w, i32_w]
      rfl
    refine pure_ (i := 3) (N := some 39) (v := ?_) (a' := ?_) #[true, false, false, true, false, false, false, false, false, false, false, false, false] rfl rfl (by kernel_rfl) (fun _ _ _ h => h) (Or.inl ⟨by rfl, ?_⟩) ?_ ?_
    rotate_left
    · intro w'
      go_simp
      with_reducible rfl
    rotate_left
    · simp only [Act.put, List.setIfInBounds_toArray, List.set_cons_zero, List.set_cons_succ, i64_w, i32_w]
      rfl
    refine take_ (i := 1) (N := some 37) (v := ?_) (a' := ?_) #[true, true, false, true, false, false, false, false, false, false, false, false, false] rfl rfl (by kernel_rfl) (fun _ _ _ h => h) (Or.inl ⟨by rfl, ?_⟩) hHeld ?_ ?_
    rotate_left
    · rintro w' ⟨s0, s1, s2, s3, s4, s5, s6⟩
      go_simp
      with_reducible rfl
    rotate_left
    · simp only [Act.put, List.setIfInBounds_toArray, List.set_cons_zero, List.set_cons_succ, i64_w, i32_w]
      rfl
    refine take_ (i := 4) (N := some 40) (v := ?_) (a' := ?_) #[true, true, false, true, true, false, false, false, false, false, false, false, false] rfl rfl (by kernel_rfl) (fun _ _ _ h => h) (Or.inl ⟨by rfl, ?_⟩) hHeld ?_ ?_
    rotate_left
    · rintro w' ⟨s0, s1, s2, s3, s4, s5, s6⟩
      go_simp
      with_reducible rfl
    rotate_left
    · simp only [Act.put, List.setIfInBounds_toArray, List.set_cons_zero, List.set_cons_succ, i64_w, i32_w]
      rfl
    refine one_ (i := 2) (N := some 38) #[true, true, true, true, true, false, false, false, false, false, false, false, false] rfl rfl (by kernel_rfl) (by decide) (fun K hK => ?_)
    refine value_ (w1 := ?_) (v := ?_) (by rfl) rfl ?_ ?_
    rotate_left 2
    · go_simp
      constructor
      · rfl
      · rfl
    have hoa : Own (w9.alloc (.cells #[] 5)).drew w9.heap.size (.slice (some ⟨w9.heap.size, 0, none⟩) 0 0) [] := own_new w9 w9.heap.size [] (Nat.le_refl _) (by simp)
    have hba : Below w9.drew.heap.size w9.drew (w9.alloc (.cells #[] 5)).drew := below_da _ _
    generalize (w9.alloc (.cells #[] 5)).drew = wa at hoa hba ⊢
    have HOa := Lib.hid hoa
    have HBa := Lib.hid hba
    clear hoa hba
    refine hK.out _ _ (⟨keepA HBa.out hHeld.1, keepA HBa.out hHeld.2.1, keepA HBa.out hHeld.2.2.1, keepA HBa.out hHeld.2.2.2.1, keepA HBa.out hHeld.2.2.2.2.1, keepA HBa.out hHeld.2.2.2.2.2.1, Lib.hid (belowT hHeld.2.2.2.2.2.2.out HBa.out)⟩) (fun hHeld => ?_)
    clear hK K
    refine norm_ (a' := ?_) ?_ ?_
    rotate_left
    · show Act.put _ (some 38) _ = _
      simp only [Act.put, List.setIfInBounds_toArray, List.set_cons_zero, List.set_cons_succ, i64_w, i32_w]
      rfl
    refine one_ (i := 5) (N := some 41) #[true, true, true, true, true, true, false, false, false, false, false, false, false] rfl rfl (by kernel_rfl) (by decide) (fun K hK => ?_)
    rw [if_pos (by rfl)]
    refine wp_append_bs (.tmp 38) (.tmp 40) rfl w9.heap.size (.slice (some ⟨w9.heap.size, 0, none⟩) 0 0) [] rfl HOa.out A xs.length c xs rfl (HU9.out.at_ hHeld.2.2.2.2.2.2.out).bs (by simp; omega) hHeld.2.2.2.2.2.2.out.size ?_
    intro vb wb hob hgb _
    have HBb := Lib.hid (hHeld.2.2.2.2.2.2.out.grown hgb hHeld.2.2.2.2.2.2.out.size (fun k hk => (HOa.out.lt k hk).1))
    obtain ⟨Ab, cb, rfl, hqb⟩ := Own.bs (show Own wb w9.heap.size vb xs from hob) hxb.out
    have HQb := Lib.hid hqb
    clear hob hgb hqb
    refine hK.out _ _ (⟨keepA HBb.out HX9.out.1, keepA HBb.out HX9.out.2.1, keepA HBb.out HX9.out.2.2.1, keepA HBb.out HX9.out.2.2.2.1, keepA HBb.out HX9.out.2.2.2.2.1, keepA HBb.out HX9.out.2.2.2.2.2, HBb⟩) (fun hHeld => ?_)
    clear hK K
    refine norm_ (a' := ?_) ?_ ?_
    rotate_left
    · show Act.put _ (some 41) _ = _
      simp only [Act.put, List.setIfInBounds_toArray, List.set_cons_zero, List.set_cons_succ, i64_w, i32_w]
      rfl
    refine pure_ (i := 6) (N := some 42) (v := ?_) (a' := ?_) #[true, true, true, true, true, true, true, false, false, false, false, false, false] rfl rfl (by kernel_rfl) (fun _ _ _ h => h) (Or.inl ⟨by rfl, ?_⟩) ?_ ?_
    rotate_left
    · intro w'
      go_simp
      with_reducible rfl
    rotate_left
    · simp only [Act.put, List.setIfInBounds_toArray, List.set_cons_zero, List.set_cons_succ, i64_w, i32_w]
      rfl
    refine one_ (i := 7) (N := some 43) #[true, true, true, true, true, true, true, true, false, false, false, false, false] rfl rfl (by kernel_rfl) (by decide) (fun K hK => ?_)
    refine goes_ Tryd.func27 (by kernel_rfl) rfl #[frm ver ty fl st ln Ab xs.length cb] (by rfl) rfl rfl (by simp only [List.map_toArray, List.map_cons, List.map_nil]; rfl) ?_
    with_reducible refine (fbytes_yes ver ty fl st ln Ab xs.length cb xs _ HQb.out f0 f1 s0 s1 l0 l1 hne).mono ?_
    rintro e wc ⟨vc, rfl, hoc, hbc⟩
    refine ⟨_, rfl, ?_⟩
    have HBc := Lib.hid hbc
    obtain ⟨Ac, cc, rfl, hqc⟩ := Own.bs (show Own wc _ vc zs by rw [HZ.out]; exact hoc) HNx.out
    have HQc := Lib.hid hqc
    clear hbc hoc hqc
    refine hK.out _ _ (⟨keepA HBc.out hHeld.1, keepA HBc.out hHeld.2.1, keepA HBc.out hHeld.2.2.1, keepA HBc.out hHeld.2.2.2.1, keepA HBc.out hHeld.2.2.2.2.1, keepA HBc.out hHeld.2.2.2.2.2.1, Lib.hid (belowT hHeld.2.2.2.2.2.2.out HBc.out)⟩) (fun hHeld => ?_)
    clear hK K
    refine norm_ (a' := ?_) ?_ ?_
    rotate_left
    · show Act.put _ (some 43) _ = _
      simp only [Act.put, List.setIfInBounds_toArray, List.set_cons_zero, List.set_cons_succ, i64_w, i32_w]
      rfl
    refine pure_ (i := 8) (N := some 35) (v := ?_) (a' := ?_) #[true, true, true, true, true, true, true, true, true, false, false, false, false] rfl rfl (by kernel_rfl) (fun _ _ _ h => h) (Or.inl ⟨by rfl, ?_⟩) ?_ ?_
    rotate_left
    · intro w'
      go_simp
      with_reducible rfl
    rotate_left
    · simp only [Act.put, List.setIfInBounds_toArray, List.set_cons_zero, List.set_cons_succ, i64_w, i32_w]
      rfl
    refine pure_ (i := 9) (N := some 44) (v := ?_) (a' := ?_) #[true, true, true, true, true, true, true, true, true, true, false, false, false] rfl rfl (by kernel_rfl) (fun _ _ _ h => h) (Or.inl ⟨by rfl, ?_⟩) ?_ ?_
    rotate_left
    · intro w'
      go_simp
      with_reducible rfl
    rotate_left
    · simp only [Act.put, List.setIfInBounds_toArray, List.set_cons_zero, List.set_cons_succ, i64_w, i32_w]
      rfl
    refine pure_ (i := 10) (N := some 45) (v := ?_) (a' := ?_) #[true, true, true, true, true, true, true, true, true, true, true, false, false] rfl rfl (by kernel_rfl) (fun _ _ _ h => h) (Or.inl ⟨by rfl, ?_⟩) ?_ ?_
    rotate_left
    · intro w'
      go_simp
      with_reducible rfl
    rotate_left
    · simp only [Act.put, List.setIfInBounds_toArray, List.set_cons_zero, List.set_cons_succ, i64_w, i32_w]
      rfl
    refine pure_ (i := 11) (N := some 3) (v := ?_) (a' := ?_) #[true, true, true, true, true, true, true, true, true, true, true, true, false] rfl rfl (by kernel_rfl) (fun _ _ _ h => h) (Or.inl ⟨by rfl, ?_⟩) ?_ ?_
    rotate_left
    · intro w'
      go_simp
      with_reducible rfl
    rotate_left
    · simp only [Act.put, List.setIfInBounds_toArray, List.set_cons_zero, List.set_cons_succ, i64_w, i32_w]
      rfl
    refine pure_ (i := 12) (N := some 4) (v := ?_) (a' := ?_) #[true, true, true, true, true, true, true, true, true, true, true, true, true] rfl rfl (by kernel_rfl) (fun _ _ _ h => h) (Or.inl ⟨by rfl, ?_⟩) ?_ ?_
    rotate_left
    · intro w'
      go_simp
      with_reducible rfl
    rotate_left
    · simp only [Act.put, List.setIfInBounds_toArray, List.set_cons_zero, List.set_cons_succ, i64_w, i32_w]
      rfl
    refine done_ (by kernel_rfl) ?_
    obtain ⟨e0, e1, e2, e3, e4, e5, HBw⟩ := hHeld
    have HUc := Lib.hid (HU9.out.next HBw.out)
    have HBd := Lib.hid (belowT HB9w.out HBw.out)
    clear HBw
    go_wp2_with fail
    refine (rfbytes_yes ver ty fl st ln A xs.length c xs _ HUc.out.now.bs v0 v1 t0 t1 f0 f1 s0 s1 l0 l1 hne).mono ?_
    rintro e wd ⟨vd, rfl, hod, hbd⟩
    have HQd := Lib.hid (HQc.out.next hbd)
    have HBe := Lib.hid (belowT HBd.out hbd)
    have HUd := Lib.hid (HUc.out.next hbd)
    obtain ⟨Ad, cd, rfl, hqd⟩ := Own.bs (show Own wd _ vd zs by rw [HZ.out]; exact hod) HNx.out
    have HQe := Lib.hid hqd
    clear hod hbd hqd
    go_wp2_with fail
    refine (same_eq HQd.out HQe.out).mono ?_
    rintro e we ⟨rfl, rfl⟩
    go_wp2_with fail
    refine (code_nil _).mono ?_
    rintro e wf ⟨rfl, rfl⟩
    go_wp2_with fail
    go_ret
    exact ⟨rfl, HBe.out⟩
  · go_wp2_with fail
    refine start_ (n := 13) (S := fun w' => w'.cell? ⟨w.heap.size, 0, none⟩ = some (.int .u8 ver) ∧ w'.cell? ⟨w.heap.size, 1, none⟩ = some (.int .u8 ty) ∧ w'.cell? ⟨w.heap.size, 2, none⟩ = some (.int .u16 fl) ∧ w'.cell? ⟨w.heap.size, 3, none⟩ = some (.int .u32 st) ∧ w'.cell? ⟨w.heap.size, 4, none⟩ = some (.int .u32 ln) ∧ w'.cell? ⟨w.heap.size, 5, none⟩ = some (.slice A xs.length c) ∧ Hid (Below w9.heap.size w9 w')) (ds := []) #[false, false, false, false, false, false, false, false, false, false, false, false, false] (by kernel_rfl) rfl rfl (⟨HX9.out.1, HX9.out.2.1, HX9.out.2.2.1, HX9.out.2.2.2.1, HX9.out.2.2.2.2.1, HX9.out.2.2.2.2.2, Lib.hid (Below.refl _ _).drew⟩) (fun hHeld => ?_)
    refine pure_ (i := 0) (N := some 36) (v := ?_) (a' := ?_) #[true, false, false, false, false, false, false, false, false, false, false, false, false] rfl rfl (by kernel_rfl) (fun _ _ _ h => h) (Or.inl ⟨by rfl, ?_⟩) ?_ ?_
    rotate_left
    · intro w'
      go_simp
      with_reducible rfl
    rotate_left
    · simp only [Act.put, List.setIfInBounds_toArray, List.set_cons_zero, List.set_cons_succ, i64_w, i32_w]
      rfl
    refine pure_ (i := 3) (N := some 39) (v := ?_) (a' := ?_) #[true, false, false, true, false, false, false, false, false, false, false, false, false] rfl rfl (by kernel_rfl) (fun _ _ _ h => h) (Or.inl ⟨by rfl, ?_⟩) ?_ ?_
    rotate_left
    · intro w'
      go_simp
      with_reducible rfl
    rotate_left
    · simp only [Act.put, List.setIfInBounds_toArray, List.set_cons_zero, List.set_cons_succ, i64_w, i32_w]
      rfl
    refine take_ (i := 1) (N := some 37) (v := ?_) (a' := ?_) #[true, true, false, true, false, false, false, false, false, false, false, false, false] rfl rfl (by kernel_rfl) (fun _ _ _ h => h) (Or.inl ⟨by rfl, ?_⟩) hHeld ?_ ?_
    rotate_left
    · rintro w' ⟨s0, s1, s2, s3, s4, s5, s6⟩
      go_simp
      with_reducible rfl
    rotate_left
    · simp only [Act.put, List.setIfInBounds_toArray, List.set_cons_zero, List.set_cons_succ, i64_w, i32_w]
      rfl
    refine take_ (i := 4) (N := some 40) (v := ?_) (a' := ?_) #[true, true, false, true, true, false, false, false, false, false, false, false, false] rfl rfl (by kernel_rfl) (fun _ _ _ h => h) (Or.inl ⟨by rfl, ?_⟩) hHeld ?_ ?_
    rotate_left
    · rintro w' ⟨s0, s1, s2, s3, s4, s5, s6⟩
      go_simp
      with_reducible rfl
    rotate_left
    · simp only [Act.put, List.setIfInBounds_toArray, List.set_cons_zero, List.set_cons_succ, i64_w, i32_w]
      rfl
    refine one_ (i := 2) (N := some 38) #[true, true, true, true, true, false, false, false, false, false, false, false, false] rfl rfl (by kernel_rfl) (by decide) (fun K hK => ?_)
    refine value_ (w1 := ?_) (v := ?_) (by rfl) rfl ?_ ?_
    rotate_left 2
    · go_simp
      constructor
      · rfl
      · rfl
    have hoa : Own (w9.alloc (.cells #[] 5)).drew w9.heap.size (.slice (some ⟨w9.heap.size, 0, none⟩) 0 0) [] := own_new w9 w9.heap.size [] (Nat.le_refl _) (by simp)
    have hba : Below w9.drew.heap.size w9.drew (w9.alloc (.cells #[] 5)).drew := below_da _ _
    generalize (w9.alloc (.cells #[] 5)).drew = wa at hoa hba ⊢
    have HOa := Lib.hid hoa
    have HBa := Lib.hid hba
    clear hoa hba
    refine hK.out _ _ (⟨keepA HBa.out hHeld.1, keepA HBa.out hHeld.2.1, keepA HBa.out hHeld.2.2.1, keepA HBa.out hHeld.2.2.2.1, keepA HBa.out hHeld.2.2.2.2.1, keepA HBa.out hHeld.2.2.2.2.2.1, Lib.hid (belowT hHeld.2.2.2.2.2.2.out HBa.out)⟩) (fun hHeld => ?_)
    clear hK K
    refine norm_ (a' := ?_) ?_ ?_
    rotate_left
    · show Act.put _ (some 38) _ = _
      simp only [Act.put, List.setIfInBounds_toArray, List.set_cons_zero, List.set_cons_succ, i64_w, i32_w]
      rfl
    refine one_ (i := 5) (N := some 41) #[true, true, true, true, true, true, false, false, false, false, false, false, false] rfl rfl (by kernel_rfl) (by decide) (fun K hK => ?_)
    rw [if_pos (by rfl)]
    refine wp_append_bs (.tmp 38) (.tmp 40) rfl w9.heap.size (.slice (some ⟨w9.heap.size, 0, none⟩) 0 0) [] rfl HOa.out A xs.length c xs rfl (HU9.out.at_ hHeld.2.2.2.2.2.2.out).bs (by simp; omega) hHeld.2.2.2.2.2.2.out.size ?_
    intro vb wb hob hgb _
    have HBb := Lib.hid (hHeld.2.2.2.2.2.2.out.grown hgb hHeld.2.2.2.2.2.2.out.size (fun k hk => (HOa.out.lt k hk).1))
    obtain ⟨Ab, cb, rfl, hqb⟩ := Own.bs (show Own wb w9.heap.size vb xs from hob) hxb.out
    have HQb := Lib.hid hqb
    clear hob hgb hqb
    refine hK.out _ _ (⟨keepA HBb.out HX9.out.1, keepA HBb.out HX9.out.2.1, keepA HBb.out HX9.out.2.2.1, keepA HBb.out HX9.out.2.2.2.1, keepA HBb.out HX9.out.2.2.2.2.1, keepA HBb.out HX9.out.2.2.2.2.2, HBb⟩) (fun hHeld => ?_)
    clear hK K
    refine norm_ (a' := ?_) ?_ ?_
    rotate_left
    · show Act.put _ (some 41) _ = _
      simp only [Act.put, List.setIfInBounds_toArray, List.set_cons_zero, List.set_cons_succ, i64_w, i32_w]
      rfl
    refine pure_ (i := 6) (N := some 42) (v := ?_) (a' := ?_) #[true, true, true, true, true, true, true, false, false, false, false, false, false] rfl rfl (by kernel_rfl) (fun _ _ _ h => h) (Or.inl ⟨by rfl, ?_⟩) ?_ ?_
    rotate_left
    · intro w'
      go_simp
      with_reducible rfl
    rotate_left
    · simp only [Act.put, List.setIfInBounds_toArray, List.set_cons_zero, List.set_cons_succ, i64_w, i32_w]
      rfl
    refine one_ (i := 7) (N := some 43) #[true, true, true, true, true, true, true, true, false, false, false, false, false] rfl rfl (by kernel_rfl) (by decide) (fun K hK => ?_)
    refine goes_ Tryd.func27 (by kernel_rfl) rfl #[frm ver ty fl st ln Ab xs.length cb] (by rfl) rfl rfl (by simp only [List.map_toArray, List.map_cons, List.map_nil]; rfl) ?_
    with_reducible refine (fbytes_no ver ty fl st ln Ab xs.length cb xs _ (HU9.out.at_ HBb.out).good HQb.out f0 f1 s0 s1 l0 l1 hne).mono ?_
    rintro e wc ⟨rfl, hbc⟩
    refine ⟨_, rfl, ?_⟩
    have HBc := Lib.hid hbc
    clear hbc
    refine hK.out _ _ (⟨keepA HBc.out hHeld.1, keepA HBc.out hHeld.2.1, keepA HBc.out hHeld.2.2.1, keepA HBc.out hHeld.2.2.2.1, keepA HBc.out hHeld.2.2.2.2.1, keepA HBc.out hHeld.2.2.2.2.2.1, Lib.hid (belowT hHeld.2.2.2.2.2.2.out HBc.out)⟩) (fun hHeld => ?_)
    clear hK K
    refine norm_ (a' := ?_) ?_ ?_
    rotate_left
    · show Act.put _ (some 43) _ = _
      simp only [Act.put, List.setIfInBounds_toArray, List.set_cons_zero, List.set_cons_succ, i64_w, i32_w]
      rfl
    refine pure_ (i := 8) (N := some 35) (v := ?_) (a' := ?_) #[true, true, true, true, true, true, true, true, true, false, false, false, false] rfl rfl (by kernel_rfl) (fun _ _ _ h => h) (Or.inl ⟨by rfl, ?_⟩) ?_ ?_
    rotate_left
    · intro w'
      go_simp
      with_reducible rfl
    rotate_left
    · simp only [Act.put, List.setIfInBounds_toArray, List.set_cons_zero, List.set_cons_succ, i64_w, i32_w]
      rfl
    refine pure_ (i := 9) (N := some 44) (v := ?_) (a' := ?_) #[true, true, true, true, true, true, true, true, true, true, false, false, false] rfl rfl (by kernel_rfl) (fun _ _ _ h => h) (Or.inl ⟨by rfl, ?_⟩) ?_ ?_
    rotate_left
    · intro w'
      go_simp
      with_reducible rfl
    rotate_left
    · simp only [Act.put, List.setIfInBounds_toArray, List.set_cons_zero, List.set_cons_succ, i64_w, i32_w]
      rfl
    refine pure_ (i := 10) (N := some 45) (v := ?_) (a' := ?_) #[true, true, true, true, true, true, true, true, true, true, true, false, false] rfl rfl (by kernel_rfl) (fun _ _ _ h => h) (Or.inl ⟨by rfl, ?_⟩) ?_ ?_
    rotate_left
    · intro w'
      go_simp
      with_reducible rfl
    rotate_left
    · simp only [Act.put, List.setIfInBounds_toArray, List.set_cons_zero, List.set_cons_succ, i64_w, i32_w]
      rfl
    refine pure_ (i := 11) (N := some 3) (v := ?_) (a' := ?_) #[true, true, true, true, true, true, true, true, true, true, true, true, false] rfl rfl (by kernel_rfl) (fun _ _ _ h => h) (Or.inl ⟨by rfl, ?_⟩) ?_ ?_
    rotate_left
    · intro w'
      go_simp
      with_reducible rfl
    rotate_left
    · simp only [Act.put, List.setIfInBounds_toArray, List.set_cons_zero, List.set_cons_succ, i64_w, i32_w]
      rfl
    refine pure_ (i := 12) (N := some 4) (v := ?_) (a' := ?_) #[true, true, true, true, true, true, true, true, true, true, true, true, true] rfl rfl (by kernel_rfl) (fun _ _ _ h => h) (Or.inl ⟨by rfl, ?_⟩) ?_ ?_
    rotate_left
    · intro w'
      go_simp
      with_reducible rfl
    rotate_left
    · simp only [Act.put, List.setIfInBounds_toArray, List.set_cons_zero, List.set_cons_succ, i64_w, i32_w]
      rfl
    refine done_ (by kernel_rfl) ?_
    obtain ⟨e0, e1, e2, e3, e4, e5, HBw⟩ := hHeld
    have HUc := Lib.hid (HU9.out.next HBw.out)
    have HBd := Lib.hid (belowT HB9w.out HBw.out)
    clear HBw
    go_wp2_with fail
    refine (rfbytes_no ver ty fl st ln A xs.length c xs _ HUc.out.now.bs v0 v1 t0 t1 f0 f1 s0 s1 l0 l1 hne).mono ?_
    rintro e wd ⟨rfl, hbd⟩
    have HBe := Lib.hid (belowT HBd.out hbd)
    have HUd := Lib.hid (HUc.out.next hbd)
    clear hbd
    go_wp2_with fail
    refine (same_eq (bs_nil wd) (bs_nil wd)).mono ?_
    rintro e we ⟨rfl, rfl⟩
    go_wp2_with fail
    refine (code_any HUd.out.now.good (.inr (.inl ⟨by omega, by omega, rfl⟩) : EV sa we 15 0 (sv (sa 15)))).mono ?_
    rintro e wf ⟨rfl, rfl⟩
    go_wp2_with fail
    go_ret
    exact ⟨rfl, HBe.out⟩
end Go.Proofs.YtfddhipdedcacaaDoor
