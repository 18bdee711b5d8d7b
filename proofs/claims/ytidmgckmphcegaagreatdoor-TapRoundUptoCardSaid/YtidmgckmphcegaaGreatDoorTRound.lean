/-
  TapRound, walked: Assemble of all that a tap has told.
-/
import Derived.Test.YtidmgckmphcegaaGreatDoorTHeard
import Derived.Test.YtidmgckmphcegaaGreatDoorTRows
namespace Go.Proofs.YtidmgckmphcegaaGreatDoor
open Go.RowKit Go.Proofs.YtidmgckmphcegaaGreatDoorW.PrintWords Go.Proofs.YtidmgckmphcegaaGreatDoorW.PrintLast Go.Proofs.YtidmgckmphcegaaGreatDoor.Px
set_option linter.unusedVariables false
set_option linter.unusedSimpArgs false
theorem conv_runB {o : Oper} {a : Act} {x : Operand} {A : Option Addr} {n c : Nat} {xs : List Int} {w : World} (hop : o.op = .convert 26 9 x) (hx : a.eval x = .slice A n c) (h : Bs w A n c xs) : (execOp a.eval o).run Tryz.prog w = .ok (.value (.string (strOfNums xs))) w := by
  unfold execOp
  simp only [hop, hx, Sem.run_bind, str_of h, Result.andThen_ok, Sem.run_pure]
theorem Bs.head {w : World} {A : Option Addr} {n c : Nat} {xs : List Int} (h : Bs w A n c xs) (k : Nat) (hk : k ≤ n) : Bs w A k c (xs.take k) := h.take' k hk
theorem flat_pre {most : Int} {xs : List Int} (hx : ∀ x ∈ xs, 0 ≤ x ∧ x ≤ 255) : (flat (framesX most xs)).length ≤ xs.length ∧ xs.take (flat (framesX most xs)).length = flat (framesX most xs) ∧ (codeX most xs = 0 → (flat (framesX most xs)).length + (restX most xs).length = xs.length) := by
  obtain ⟨_, tl, h1, h2, _⟩ := cut_all most xs hx
  have h3 : xs = flat (framesX most xs) ++ tl := h1
  have hl := congrArg List.length h3
  rw [List.length_append] at hl
  refine ⟨by omega, ?_, fun hc => ?_⟩
  · have e : ∀ (zs F t : List Int), zs = F ++ t → zs.take F.length = F := by
      rintro _ F t rfl
      simp
    exact e _ _ _ h3
  · have : tl = restX most xs := h2 hc
    rw [← this]; omega
theorem flat_take {fs : List Fr} {k : Nat} (hk : k < fs.length) : (flat (fs.take (k + 1))).length = (flat (fs.take k)).length + (12 + (fs[k]).f1.length) := by
  rw [List.take_succ_eq_append_getElem hk, flat_app, List.length_append, flat_one, encF_len]
theorem flat_take_le (fs : List Fr) (k : Nat) : (flat (fs.take k)).length ≤ (flat fs).length := by
  conv => rhs; rw [← List.take_append_drop k fs, flat_app, List.length_append]
  omega
theorem newX_all (most : Int) (xs : List Int) : newX most [] xs = framesX most xs := by
  have h : cut most ([] : List Int) = ([], [], 0, 0) := cut_short (by simp)
  unfold newX codeX restX
  rw [h, if_pos rfl]; rfl
/-- What Err answers, and Code of it. -/
theorem terr_any' {sa : Nat → Addr} {w0 w : World} {g gd b : Nat} {most : Int} {xs : List Int} {v : Value} (h : TapV sa w0 w g gd most xs v b) : ∃ ev, EV sa w (whyX most xs) (stX most xs) ev ∧
    Calls Tryz.prog 28 #[.pointer (some ⟨g, 0, none⟩)] w fun e w' => e = .returned ev ∧ w' = w := ⟨_, h.dec.ev, terr_any h⟩
set_option maxRecDepth 100000 in
set_option maxHeartbeats 4000000 in
theorem tapRound_walk {sa : Nat → Addr} {w : World} (hE : TE sa w) (most : Int) (A : Option Addr) (n c : Nat) (ps : List (List Int)) (hP : Pcs w A n c ps) (hs : (ps.map List.length).sum + n ≤ 10000000) :
    Calls Tryz.prog 13 #[.int .i64 most, .slice A n c] w fun e w' => e = .returned (.bool true) ∧ Below w.heap.size w w' := by
  have hbt := pcs_byt hP
  obtain ⟨xs, hxs⟩ : ∃ xs, xs = ps.flatten := ⟨_, rfl⟩
  have hxl : xs.length ≤ 10000000 := by rw [hxs, List.length_flatten]; omega
  have hxb : ∀ x ∈ xs, 0 ≤ x ∧ x ≤ 255 := by
    intro x hx
    rw [hxs] at hx
    obtain ⟨p, hp, hx⟩ := List.mem_flatten.1 hx
    exact hbt p hp x hx
  have HE := Lib.hid hE
  have HP := Lib.hid hP
  have HS := Lib.hid hs
  have HXS := Lib.hid hxs
  have HXB := Lib.hid hxb
  clear hE hP hs hbt hxs hxb
  go_enter Tryz.func13, Tryz.ntmps13
  go_wp2_with fail
  refine (wakes_any HE.out).mono ?_
  rintro e w1 ⟨rfl, hb1⟩
  have HB1 := Lib.hid hb1
  have HP1 := Lib.hid (HP.out.next hb1)
  clear hb1 HP
  by_cases hmm : most < 1 ∨ 65536 < most
  · go_wp2_with fail
    refine (heard_no (HE.out.below HB1.out).good most hmm _).mono ?_
    rintro e w2 ⟨rfl, hb2⟩
    have HB2 := Lib.hid (belowT HB1.out hb2)
    clear hb2
    rcases hmm with hmm | hmm
    · have h1 : decide (most < 1) = true := by simp [hmm]
      go_wp2_with fail
      go_ret
      exact ⟨rfl, HB2.out⟩
    · have h1 : decide (most < 1) = false := by simp; omega
      have h2 : decide (65536 < most) = true := by simp [hmm]
      go_wp2_with fail
      go_ret
      exact ⟨rfl, HB2.out⟩
  · have m1 : 1 ≤ most := by omega
    have m2 : most ≤ 65536 := by omega
    obtain ⟨hf1, hf2, hf3⟩ := flat_pre (most := most) HXB.out
    have hga := gasm_all most xs HXB.out
    have htl := tellAll_len most xs HXB.out
    have hall : ∀ p ∈ framesX most xs, FOk most p := (cut_all most xs HXB.out).1
    obtain ⟨fs, hfs⟩ : ∃ fs, fs = framesX most xs := ⟨_, rfl⟩
    rw [← hfs] at hf1 hf2 hf3 hga hall
    have hfb := flat_byt hall
    obtain ⟨sl, hsl⟩ : ∃ sl : ByteArray, sl = ⟨(tellAll most xs).toArray⟩ := ⟨_, rfl⟩
    have hsd : sl.data.toList = tellAll most xs := by rw [hsl]
    have hss : sl.size < 4294967281 := by
      have : sl.size = sl.data.toList.length := by simp
      rw [this, hsd]; omega
    have HGA := Lib.hid hga
    have HFS := Lib.hid hfs
    have HF2 := Lib.hid hf2
    have HF3 := Lib.hid hf3
    have HFB := Lib.hid hfb
    have HSL := Lib.hid hsl
    have HSD := Lib.hid hsd
    clear hga hfs hf2 hf3 hfb hsl hsd htl hall
    go_wp2_with fail
    refine (heard_at (HE.out.below HB1.out) most m1 m2 HP1.out (by have := HS.out; omega) xs HXS.out.symm).mono ?_
    rintro e w2 ⟨g1, gd1, v1, b1, rfl, hh1⟩
    rw [← HSL.out]
    have HB2 := Lib.hid (belowT HB1.out hh1.below)
    have HV2 := Lib.hid hh1.tap
    have HP2 := Lib.hid (HP1.out.next hh1.below)
    clear hh1 HB1 HP1
    go_wp2_with fail
    refine (joined26_any HP2.out (by have := HS.out; omega)).mono ?_
    rintro e w3 ⟨va, rfl, hoa, hb3⟩
    rw [← HXS.out] at hoa
    obtain ⟨A3, c3, rfl, hq3⟩ := Own.bs hoa HXB.out
    have HB3 := Lib.hid (belowT HB2.out hb3)
    have HV3 := Lib.hid (HV2.out.below hb3)
    have HQ3 := Lib.hid hq3
    have hc3 := hq3.cap
    clear hb3 hoa hq3 HP2 HB2 HV2
    go_wp2_with fail
    have hE3 := HE.out.below HB3.out
    refine (asm_any sl hss w3 hE3.good hE3.pow hE3.wrd hE3.ner hE3.mxl).mono ?_
    intro e w4 ha4
    unfold AsmTo at ha4
    rw [HSD.out, HGA.out] at ha4
    obtain ⟨v4, rfl, ho4, hb4⟩ := ha4
    obtain ⟨A4, c4, rfl, hq4⟩ := Own.bs ho4 HFB.out
    have HB4 := Lib.hid (belowT HB3.out hb4)
    have HV4 := Lib.hid (HV3.out.below hb4)
    have HQ4 := Lib.hid (HQ3.out.next hb4)
    have HR4 := Lib.hid hq4
    have hpre := (HQ4.out.head (flat fs).length hf1)
    rw [HF2.out] at hpre
    have HT4 := Lib.hid hpre
    obtain ⟨nf, hnf⟩ : ∃ nf : Nat, nf = (flat fs).length := ⟨_, rfl⟩
    rw [← hnf] at hf1 HR4 HT4 HF3 ⊢
    have HNF := Lib.hid hnf
    have hd1 : decide (xs.length < nf) = false := by simp; omega
    have hne : ((strOfNums (flat fs)).toList != (strOfNums (flat fs)).toList) = false := by simp
    have hnc : nf ≤ c3 := by omega
    clear hb4 ho4 hq4 hpre hE3 HB3 HV3 HQ3 hnf
    go_wp2_with fail
    refine start_ (n := 19) (S := fun w' => Bs w' A4 nf c4 (flat fs) ∧ Bs w' A3 nf c3 (flat fs) ∧ Hid (Below w4.heap.size w4 w')) (ds := []) #[false, false, false, false, false, false, false, false, false, false, false, false, false, false, false, false, false, false, false] (by kernel_rfl) rfl rfl (⟨HR4.out.next (Below.refl _ _).drew, HT4.out.next (Below.refl _ _).drew, Lib.hid (Below.refl _ _).drew⟩) (fun hHeld => ?_)
    refine pure_ (i := 0) (N := some 41) (v := ?_) (a' := ?_) #[true, false, false, false, false, false, false, false, false, false, false, false, false, false, false, false, false, false, false] rfl rfl (by kernel_rfl) (fun _ _ _ h => h) (Or.inl ⟨by rfl, ?_⟩) ?_ ?_
    rotate_left
    · intro w'
      go_simp
      with_reducible rfl
    rotate_left
    · simp only [Act.put, List.setIfInBounds_toArray, List.set_cons_zero, List.set_cons_succ, i64_w, i32_w]
      rfl
    refine pure_ (i := 1) (N := some 42) (v := ?_) (a' := ?_) #[true, true, false, false, false, false, false, false, false, false, false, false, false, false, false, false, false, false, false] rfl rfl (by kernel_rfl) (fun _ _ _ h => h) (Or.inl ⟨by rfl, ?_⟩) ?_ ?_
    rotate_left
    · intro w'
      go_simp
      with_reducible rfl
    rotate_left
    · simp only [Act.put, List.setIfInBounds_toArray, List.set_cons_zero, List.set_cons_succ, i64_w, i32_w]
      rfl
    refine pure_ (i := 2) (N := some 43) (v := ?_) (a' := ?_) #[true, true, true, false, false, false, false, false, false, false, false, false, false, false, false, false, false, false, false] rfl rfl (by kernel_rfl) (fun _ _ _ h => h) (Or.inl ⟨by rfl, ?_⟩) ?_ ?_
    rotate_left
    · intro w'
      go_simp
      with_reducible rfl
    rotate_left
    · simp only [Act.put, List.setIfInBounds_toArray, List.set_cons_zero, List.set_cons_succ, i64_w, i32_w]
      rfl
    refine pure_ (i := 3) (N := some 44) (v := ?_) (a' := ?_) #[true, true, true, true, false, false, false, false, false, false, false, false, false, false, false, false, false, false, false] rfl rfl (by kernel_rfl) (fun _ _ _ h => h) (Or.inl ⟨by rfl, ?_⟩) ?_ ?_
    rotate_left
    · intro w'
      go_simp
      with_reducible rfl
    rotate_left
    · simp only [Act.put, List.setIfInBounds_toArray, List.set_cons_zero, List.set_cons_succ, i64_w, i32_w]
      rfl
    refine pure_ (i := 4) (N := some 45) (v := ?_) (a' := ?_) #[true, true, true, true, true, false, false, false, false, false, false, false, false, false, false, false, false, false, false] rfl rfl (by kernel_rfl) (fun _ _ _ h => h) (Or.inl ⟨by rfl, ?_⟩) ?_ ?_
    rotate_left
    · intro w'
      go_simp
      with_reducible rfl
    rotate_left
    · simp only [Act.put, List.setIfInBounds_toArray, List.set_cons_zero, List.set_cons_succ, i64_w, i32_w]
      rfl
    refine pure_ (i := 5) (N := some 46) (v := ?_) (a' := ?_) #[true, true, true, true, true, true, false, false, false, false, false, false, false, false, false, false, false, false, false] rfl rfl (by kernel_rfl) (fun _ _ _ h => h) (Or.inl ⟨by rfl, ?_⟩) ?_ ?_
    rotate_left
    · intro w'
      go_simp
      with_reducible rfl
    rotate_left
    · simp only [Act.put, List.setIfInBounds_toArray, List.set_cons_zero, List.set_cons_succ, i64_w, i32_w]
      rfl
    refine pure_ (i := 6) (N := some 47) (v := ?_) (a' := ?_) #[true, true, true, true, true, true, true, false, false, false, false, false, false, false, false, false, false, false, false] rfl rfl (by kernel_rfl) (fun _ _ _ h => h) (Or.inl ⟨by rfl, ?_⟩) ?_ ?_
    rotate_left
    · intro w'
      go_simp
      with_reducible rfl
    rotate_left
    · simp only [Act.put, List.setIfInBounds_toArray, List.set_cons_zero, List.set_cons_succ, i64_w, i32_w]
      rfl
    refine pure_ (i := 7) (N := some 48) (v := ?_) (a' := ?_) #[true, true, true, true, true, true, true, true, false, false, false, false, false, false, false, false, false, false, false] rfl rfl (by kernel_rfl) (fun _ _ _ h => h) (Or.inl ⟨by rfl, ?_⟩) ?_ ?_
    rotate_left
    · intro w'
      go_simp
      with_reducible rfl
    rotate_left
    · simp only [Act.put, List.setIfInBounds_toArray, List.set_cons_zero, List.set_cons_succ, i64_w, i32_w]
      rfl
    refine pure_ (i := 8) (N := some 49) (v := ?_) (a' := ?_) #[true, true, true, true, true, true, true, true, true, false, false, false, false, false, false, false, false, false, false] rfl rfl (by kernel_rfl) (fun _ _ _ h => h) (Or.inl ⟨by rfl, ?_⟩) ?_ ?_
    rotate_left
    · intro w'
      go_simp
      with_reducible rfl
    rotate_left
    · simp only [Act.put, List.setIfInBounds_toArray, List.set_cons_zero, List.set_cons_succ, i64_w, i32_w]
      rfl
    refine pure_ (i := 9) (N := some 50) (v := ?_) (a' := ?_) #[true, true, true, true, true, true, true, true, true, true, false, false, false, false, false, false, false, false, false] rfl rfl (by kernel_rfl) (fun _ _ _ h => h) (Or.inl ⟨by rfl, ?_⟩) ?_ ?_
    rotate_left
    · intro w'
      go_simp
      with_reducible rfl
    rotate_left
    · simp only [Act.put, List.setIfInBounds_toArray, List.set_cons_zero, List.set_cons_succ, i64_w, i32_w]
      rfl
    refine pure_ (i := 10) (N := some 51) (v := ?_) (a' := ?_) #[true, true, true, true, true, true, true, true, true, true, true, false, false, false, false, false, false, false, false] rfl rfl (by kernel_rfl) (fun _ _ _ h => h) (Or.inl ⟨by rfl, ?_⟩) ?_ ?_
    rotate_left
    · intro w'
      go_simp
      with_reducible rfl
    rotate_left
    · simp only [Act.put, List.setIfInBounds_toArray, List.set_cons_zero, List.set_cons_succ, i64_w, i32_w]
      rfl
    refine pure_ (i := 12) (N := some 53) (v := ?_) (a' := ?_) #[true, true, true, true, true, true, true, true, true, true, true, false, true, false, false, false, false, false, false] rfl rfl (by kernel_rfl) (fun _ _ _ h => h) (Or.inl ⟨by rfl, ?_⟩) ?_ ?_
    rotate_left
    · intro w'
      go_simp
      with_reducible rfl
    rotate_left
    · simp only [Act.put, List.setIfInBounds_toArray, List.set_cons_zero, List.set_cons_succ, i64_w, i32_w]
      rfl
    refine pure_ (i := 13) (N := some 54) (v := ?_) (a' := ?_) #[true, true, true, true, true, true, true, true, true, true, true, false, true, true, false, false, false, false, false] rfl rfl (by kernel_rfl) (fun _ _ _ h => h) (Or.inl ⟨by rfl, ?_⟩) ?_ ?_
    rotate_left
    · intro w'
      go_simp
      with_reducible rfl
    rotate_left
    · simp only [Act.put, List.setIfInBounds_toArray, List.set_cons_zero, List.set_cons_succ, i64_w, i32_w]
      rfl
    refine pure_ (i := 14) (N := some 55) (v := ?_) (a' := ?_) #[true, true, true, true, true, true, true, true, true, true, true, false, true, true, true, false, false, false, false] rfl rfl (by kernel_rfl) (fun _ _ _ h => h) (Or.inl ⟨by rfl, ?_⟩) ?_ ?_
    rotate_left
    · intro w'
      go_simp
      with_reducible rfl
    rotate_left
    · simp only [Act.put, List.setIfInBounds_toArray, List.set_cons_zero, List.set_cons_succ, i64_w, i32_w]
      rfl
    refine pure_ (i := 15) (N := some 56) (v := ?_) (a' := ?_) #[true, true, true, true, true, true, true, true, true, true, true, false, true, true, true, true, false, false, false] rfl rfl (by kernel_rfl) (fun _ _ _ h => h) (Or.inl ⟨by rfl, ?_⟩) ?_ ?_
    rotate_left
    · intro w'
      go_simp
      with_reducible rfl
    rotate_left
    · simp only [Act.put, List.setIfInBounds_toArray, List.set_cons_zero, List.set_cons_succ, i64_w, i32_w]
      rfl
    refine take_ (i := 11) (N := some 52) (v := ?_) (a' := ?_) #[true, true, true, true, true, true, true, true, true, true, true, true, true, true, true, true, false, false, false] rfl rfl (by kernel_rfl) (fun _ _ _ h => h) (Or.inl ⟨by rfl, ?_⟩) hHeld ?_ ?_
    rotate_left
    · rintro w' ⟨s0, s1, s2⟩
      refine (conv_runB (by rfl) (by rfl) s0).trans ?_
      with_reducible rfl
    rotate_left
    · simp only [Act.put, List.setIfInBounds_toArray, List.set_cons_zero, List.set_cons_succ, i64_w, i32_w]
      rfl
    refine take_ (i := 16) (N := some 57) (v := ?_) (a' := ?_) #[true, true, true, true, true, true, true, true, true, true, true, true, true, true, true, true, true, false, false] rfl rfl (by kernel_rfl) (fun _ _ _ h => h) (Or.inl ⟨by rfl, ?_⟩) hHeld ?_ ?_
    rotate_left
    · rintro w' ⟨s0, s1, s2⟩
      refine (conv_runB (by rfl) (by rfl) s1).trans ?_
      with_reducible rfl
    rotate_left
    · simp only [Act.put, List.setIfInBounds_toArray, List.set_cons_zero, List.set_cons_succ, i64_w, i32_w]
      rfl
    refine pure_ (i := 17) (N := some 58) (v := ?_) (a' := ?_) #[true, true, true, true, true, true, true, true, true, true, true, true, true, true, true, true, true, true, false] rfl rfl (by kernel_rfl) (fun _ _ _ h => h) (Or.inl ⟨by rfl, ?_⟩) ?_ ?_
    rotate_left
    · intro w'
      go_simp
      with_reducible rfl
    rotate_left
    · simp only [Act.put, List.setIfInBounds_toArray, List.set_cons_zero, List.set_cons_succ, i64_w, i32_w]
      rfl
    refine pure_ (i := 18) (N := some 59) (v := ?_) (a' := ?_) #[true, true, true, true, true, true, true, true, true, true, true, true, true, true, true, true, true, true, true] rfl rfl (by kernel_rfl) (fun _ _ _ h => h) (Or.inl ⟨by rfl, ?_⟩) ?_ ?_
    rotate_left
    · intro w'
      go_simp
      with_reducible rfl
    rotate_left
    · simp only [Act.put, List.setIfInBounds_toArray, List.set_cons_zero, List.set_cons_succ, i64_w, i32_w]
      rfl
    refine done_ (by kernel_rfl) ?_
    obtain ⟨w5, hw5⟩ : ∃ w5, w5 = w4.drew := ⟨_, rfl⟩
    have hb5 : Below w4.heap.size w4 w5 := by rw [hw5]; exact (Below.refl _ _).drew
    rw [← hw5]
    have HB5 := Lib.hid (belowT HB4.out hb5)
    have HV5 := Lib.hid (HV4.out.below hb5)
    have HQ5 := Lib.hid (HQ4.out.next hb5)
    clear hb5 hw5 hHeld HB4 HV4 HQ4 HR4 HT4
    go_wp2_with fail
    refine (new_dec sa (w0 := w5) (w := w5) most m1 m2).mono ?_
    rintro e w6 ⟨rfl, hd6, hb6⟩
    have HD6 := Lib.hid hd6
    have HB56 := Lib.hid hb6
    have HB6 := Lib.hid (belowT HB5.out hb6)
    have HQ6 := Lib.hid (HQ5.out.next hb6)
    clear hd6 hb6 HQ5
    go_wp2_with (at_builtin; go_loud (refine append_at (w0 := w5) rfl _ _ rfl (.slice (some ⟨w6.heap.size, 0, none⟩) 0 0) [] rfl (own_new w6 w5.heap.size [] HB56.out.size (by simp)) A3 xs.length c3 xs rfl (HQ6.out.next ((Below.refl _ _).alloc (Nat.le_refl _) _)) (by simp <;> omega) (HB56.out.alloc HB56.out.size _) ?_; intro va wa hoa hba hga _; rw [List.nil_append] at hoa; obtain ⟨Aa, ca, rfl, hqa⟩ := Own.bs hoa HXB.out; have hbW : Below w6.heap.size w6 wa := ((Below.refl _ _).alloc (Nat.le_refl _) _).grown hga (by simp) (fun k hk => by simp [Value.ownBlock] at hk; omega); have HDa := Lib.hid (HD6.out.below hbW); have HBa := Lib.hid hba; have HQa := Lib.hid hqa; clear hoa hba hga hqa hbW))
    have hE5 := HE.out.below HB5.out
    refine (feed_dec hE5.good hE5.law w5.heap.size most [] (.slice none 0 0) 0 HBa.out HDa.out (Nat.le_refl _) (by simp) Aa xs.length ca xs HQa.out m1 m2 (by simp; omega)).mono ?_
    rintro e w7 ⟨fv, v7, b7, rfl, hF7⟩
    have hN := hF7.frames
    rw [newX_all, ← HFS.out] at hN
    obtain ⟨Af, cf, rfl, hcf, _⟩ := Kd.N_reads hN
    have HN := Lib.hid hN
    have HV7 := Lib.hid (HV5.out.below hF7.below)
    have HB7 := Lib.hid (belowT HB5.out hF7.below)
    have hd7 := hF7.dec
    rw [List.nil_append] at hd7 ⊢
    have HD7 := Lib.hid hd7
    have hfl : fs.length ≤ 10000000 := by have := flat_cnt fs; rw [← HNF.out] at this; omega
    obtain ⟨ev, hev⟩ : ∃ ev, ev = errX most xs b7 := ⟨_, rfl⟩
    have hE7 := hd7.ev
    rw [← hev] at hE7 ⊢
    have HEV := Lib.hid hE7
    have HEX := Lib.hid hev
    clear hF7 hN hd7 hev hE7 hE5 HBa HQa HDa HV5 HD6
    go_wp2_with fail
    go_loopw [15, 16] (fun sz i wr => ∃ k : Nat, k ≤ fs.length ∧ i = .int .i64 k ∧ sz = .int .i64 (flat (fs.take k)).length ∧ Hid (Below w7.heap.size w7 wr)) (fun _ i _ => fs.length - (intOf i).toNat)
    case atStart => exact ⟨0, by omega, rfl, rfl, Lib.hid (Below.refl _ _)⟩
    case round =>
      obtain ⟨k, hk, rfl, rfl, HBr⟩ := hrel
      by_cases hlt : k < fs.length
      · have hd2 : decide ((k : Int) < fs.length) = true := by simp; omega
        have hk0 : (0 : Int) ≤ (k : Int) := by omega
        have hk1 : (k : Int) < (fs.length : Int) := by omega
        have hft := flat_take hlt
        have hle := flat_take_le fs (k + 1)
        rw [hft, ← HNF.out] at hle
        have HFr := Lib.hid (Kd.N_F (Kd.N_below HN.out HBr.out))
        obtain ⟨a, A5, c5, rfl, a0, a1, a2, a3, a4, a5, al, aF⟩ := at_F HFr.out k hk0 hk1
        have hp : rd_T28 fs k = fs[k] := by
          unfold rd_T28
          rw [Int.toNat_natCast, List.getD_eq_getElem?_getD, List.getElem?_eq_getElem hlt]
          rfl
        rw [hp] at a5 al
        simp only [Int.toNat_natCast] at a5
        obtain ⟨pl, hpl⟩ : ∃ pl : Nat, pl = (fs[k]).f1.length := ⟨_, rfl⟩
        obtain ⟨sz, hsz⟩ : ∃ sz : Nat, sz = (flat (fs.take k)).length := ⟨_, rfl⟩
        rw [← hpl] at a5 al hft hle
        rw [← hsz] at hft hle ⊢
        have HFT := Lib.hid hft
        have hb1 : sz + (12 + pl) ≤ 10000000 := by omega
        have hw1 : IntKind.i64.wrap ((12 : Int) + (pl : Int)) = 12 + (pl : Int) := by rw [IntKind.wrap_i64]; omega
        have hw2 : IntKind.i64.wrap ((sz : Int) + (12 + (pl : Int))) = (sz : Int) + (12 + (pl : Int)) := by rw [IntKind.wrap_i64]; omega
        clear a0 a1 a2 a3 a4 aF hp hpl hsz hft hle
        go_wp2_with fail
        go_roundw
        case rel => exact ⟨k + 1, by omega, by go_num, by rw [HFT.out]; go_num, HBr⟩
        case measure => simp [intOf]; omega
      · obtain rfl : k = fs.length := by omega
        have hd2 : decide ((fs.length : Int) < (fs.length : Int)) = false := by simp
        have ht : fs.take fs.length = fs := List.take_length
        have HBz := Lib.hid (belowT HB7.out HBr.out)
        have hvz := HV7.out.below HBr.out
        have HDz := Lib.hid (HD7.out.below HBr.out)
        obtain ⟨e1, hv1, hc1⟩ := terr_any' hvz
        have C1 := Lib.hid hc1
        have D1 := Lib.hid (code_any (HE.out.below HBz.out).good hv1)
        have D2 := Lib.hid (code_any (HE.out.below HBz.out).good (ev_below HEV.out HBr.out))
        have HH := Lib.hid (held_dec HDz.out HXB.out)
        rw [ht, ← HNF.out]
        clear hc1 hv1 hvz ht
        by_cases hc : codeX most xs = 0
        · have he : ev = .nilIface := by rw [HEX.out]; exact if_pos hc
          have hrs := HF3.out hc
          have hsum : (nf : Int) + ((restX most xs).length : Int) = xs.length := by omega
          have hw3 : IntKind.i64.wrap ((nf : Int) + ((restX most xs).length : Int)) = xs.length := by rw [hsum, IntKind.wrap_i64]; omega
          subst he
          clear HEX HEV hc hrs
          go_wp2_with fail
          refine D2.out.mono ?_
          rintro e w8 ⟨rfl, rfl⟩
          go_wp2_with fail
          refine C1.out.mono ?_
          rintro e w8 ⟨rfl, rfl⟩
          go_wp2_with fail
          refine D1.out.mono ?_
          rintro e w8 ⟨rfl, rfl⟩
          go_wp2_with fail
          refine HH.out.mono ?_
          rintro e w8 ⟨rfl, rfl⟩
          go_wp2_with fail
          go_ret
          exact ⟨by first | rfl | simp [hsum], HBz.out⟩
        · have he : ev = vv b7 0 := by rw [HEX.out]; exact if_neg hc
          subst he
          clear HEX HEV hc
          go_wp2_with fail
          refine D2.out.mono ?_
          rintro e w8 ⟨rfl, rfl⟩
          go_wp2_with fail
          refine C1.out.mono ?_
          rintro e w8 ⟨rfl, rfl⟩
          go_wp2_with fail
          refine D1.out.mono ?_
          rintro e w8 ⟨rfl, rfl⟩
          go_wp2_with fail
          go_ret
          exact ⟨rfl, HBz.out⟩
end Go.Proofs.YtidmgckmphcegaaGreatDoor
