/-
  FeedAll, walked.
-/
import Derived.Test.YtfddhipdedcacaaDoorMD
import Derived.Test.YtfddhipdedcacaaDoorME
namespace Go.Proofs.YtfddhipdedcacaaDoor
open Go.RowKit Go.Proofs.YtfddhipdedcacaaDoorW.PrintWords Go.Proofs.YtfddhipdedcacaaDoorW.PrintLast Go.Proofs.YtfddhipdedcacaaDoorW.PrintMore Go.Proofs.YtfddhipdedcacaaDoor.PFeedPieces
set_option linter.unusedVariables false
set_option linter.unusedSimpArgs false
/-- What stays through the law. -/
structure FAll (sa : Nat → Addr) (A : Option Addr) (n c : Nat) (xs : List Int) (C : Option Addr) (m d : Nat) (zs : List Int) (w : World) : Prop where
  bs : Bs w A n c xs
  is : Is w C m d zs
  good : Good w sa
  law : Lawful w
  ert : ErT w
theorem FAll.next {sa : Nat → Addr} {A : Option Addr} {n c : Nat} {xs : List Int} {C : Option Addr} {m d : Nat} {zs : List Int} {w w' : World} (h : FAll sa A n c xs C m d zs w) (hb : Below w.heap.size w w') : FAll sa A n c xs C m d zs w' :=
  ⟨h.bs.next hb, h.is.next hb, h.good.below hb, h.law.below hb, keepA hb h.ert⟩
theorem check_fine {sa : Nat → Addr} {w : World} (hG : Good w sa) (hL : Lawful w) {ver ty fl st ln most : Int} (hI : HdIn ver ty fl st ln) (h : chk ver ty fl st ln most = 0) :
    Calls Tryd.prog 18 #[hdr ver ty fl st ln, .int .i64 most] w fun e w' => e = .returned .nilIface ∧ Below w.heap.size w w' := by
  have hc := check_any hG hL ver ty fl st ln most hI.t0 hI.t1 hI.l0 hI.l1
  rw [h] at hc
  exact hc
theorem check_code {sa : Nat → Addr} {w : World} (hG : Good w sa) (hL : Lawful w) {ver ty fl st ln most : Int} {ec : Nat} (hI : HdIn ver ty fl st ln) (h : chk ver ty fl st ln most = ec) :
    Calls Tryd.prog 18 #[hdr ver ty fl st ln, .int .i64 most] w fun e w' => e = .returned (errv sa ec) ∧ Below w.heap.size w w' := by
  have hc := check_any hG hL ver ty fl st ln most hI.t0 hI.t1 hI.l0 hI.l1
  rw [h] at hc
  exact hc
set_option maxRecDepth 100000 in
set_option maxHeartbeats 4000000 in
theorem feedAll_walk {sa : Nat → Addr} {w : World} (hG : Good w sa) (hL : Lawful w) (hT : ErT w) (most : Int) (A : Option Addr) (n c : Nat) (xs : List Int) (hB : Bs w A n c xs) (C : Option Addr) (m d : Nat) (zs : List Int) (hZ : Is w C m d zs) (hn : n ≤ 1000000000) (hm : m ≤ 1000000000) :
    Calls Tryd.prog 14 #[.int .i64 most, .slice A n c, .slice C m d] w fun e w' => e = .returned (.bool true) ∧ Below w.heap.size w w' := by
  have hA : FAll sa A n c xs C m d zs w := ⟨hB, hZ, hG, hL, hT⟩
  have HBs := Lib.hid (show Up w (FAll sa A n c xs C m d zs) from fun W hb => hA.next hb)
  have hf := fixed_any hG hL hT
  have HX := Lib.hid hB.byt
  obtain rfl := hB.len
  have hcap := hB.cap
  have hmax := hB.max
  clear hA hB hZ hG hL hT
  go_enter Tryd.func14, Tryd.ntmps14
  go_wp2_with fail
  refine hf.mono ?_
  rintro e w1 ⟨rfl, hb1⟩
  have HB1 := Lib.hid hb1
  clear hb1 hf
  by_cases hmm : most < 1 ∨ 65536 < most
  · go_wp2_with fail
    refine (gives_no (HBs.out.at_ HB1.out).good most hmm _ _).mono ?_
    rintro e w2 ⟨rfl, hb2⟩
    have HB2 := Lib.hid (belowT HB1.out hb2)
    clear hb2
    rcases hmm with hmm | hmm
    · have h1 : decide (most < 1) = true := by simp [hmm]
      go_wp2_with fail
      go_ret
      exact ⟨rfl, HB2.out⟩
    · have h1 : decide (most < 1) = false := by simp; omega
      have h2 : decide (65536 < most) = true := by simp [hmm]
      go_wp2_with fail
      go_ret
      exact ⟨rfl, HB2.out⟩
  · have m1 : 1 ≤ most := by omega
    have m2 : most ≤ 65536 := by omega
    go_wp2_with fail
    have hS := HBs.out.at_ HB1.out
    refine (gives_any hS.good hS.law most A xs.length c xs hS.bs hn C m d zs hS.is hm m1 m2).mono ?_
    rintro e w2 ⟨f1, v1, b1, rfl, hg1⟩
    obtain ⟨A1, c1, rfl⟩ := hg1.form
    have HB2 := Lib.hid (belowT HB1.out hg1.below)
    have HF := Lib.hid (hg1.F (Below.refl _ _))
    have HD := Lib.hid hg1.dec
    obtain ⟨hok, tl, hxs, hlive, hdead⟩ := cut_all most xs HX.out
    have HOK := Lib.hid (show ∀ p ∈ framesX most xs, FOk most p from hok)
    have HTL := Lib.hid (show xs = flat (framesX most xs) ++ tl ∧ (codeX most xs = 0 → tl = restX most xs) ∧ (codeX most xs ≠ 0 → ¬ tl.length < 12 ∧ chkX most tl = codeX most xs ∧ D3 tl = stX most xs) from ⟨hxs, hlive, hdead⟩)
    have HN := Lib.hid (show (framesX most xs).length ≤ 9223372036854775807 by have := framesX_len most xs; omega)
    clear hS hg1 hok hxs hlive hdead
    obtain ⟨fs, hfs⟩ : ∃ fs, fs = framesX most xs := ⟨_, rfl⟩
    rw [← hfs] at HF HOK HTL HN ⊢
    have HFS := Lib.hid hfs
    have hfl : (flat fs).length ≤ xs.length := by have := congrArg List.length HTL.out.1; rw [List.length_append] at this; omega
    have hfn : fs.length ≤ 1000000000 := by have := framesX_len most xs; rw [← hfs] at this; omega
    clear hfs
    go_wp2_with fail
    go_loopw [10, 39] (fun at_ jj wr => ∃ j : Nat, at_ = .int .i64 (flat (fs.take j)).length ∧ jj = .int .i64 j ∧ j ≤ fs.length ∧ Hid (Below w2.heap.size w2 wr)) (fun _ jj _ => fs.length - (intOf jj).toNat)
    case atStart => exact ⟨0, by simp [flat], rfl, by omega, Lib.hid (Below.refl _ _)⟩
    case round =>
      obtain ⟨j, rfl, rfl, hj, HB⟩ := hrel
      by_cases hlt : j < fs.length
      · have hd1 : decide ((j : Int) < fs.length) = true := by simp; omega
        have hk0 : (0 : Int) ≤ (j : Int) := by omega
        have hk1 : (j : Int) < (fs.length : Int) := by omega
        have HFr := Lib.hid (Kd.F_below HF.out HB.out)
        obtain ⟨p, hp⟩ : ∃ p, p = rd_T45 fs j := ⟨_, rfl⟩
        obtain ⟨a, A5, c5, rfl, a0, a1, a2, a3, a4, a5, al, aC⟩ := at_T45 (Kd.F_now HFr.out) j hk0 hk1
        rw [← hp] at a0 a1 a2 a3 a4 a5 al aC
        simp only [Int.toNat_natCast] at a0 a1 a2 a3 a4 a5
        have HP := Lib.hid hp
        clear hp
        have hpm : p ∈ fs := by
          rw [HP.out]; unfold rd_T45
          rw [Int.toNat_natCast, List.getD_eq_getElem?_getD, List.getElem?_eq_getElem hlt]
          exact List.getElem_mem hlt
        obtain ⟨hd, hsz, hck, hby⟩ := HOK.out p hpm
        have htk : flat (fs.take (j + 1)) = flat (fs.take j) ++ encF p := by
          rw [List.take_succ_eq_append_getElem hlt, flat_app, flat_one]
          congr 1
          rw [HP.out]; unfold rd_T45
          rw [Int.toNat_natCast, List.getD_eq_getElem?_getD, List.getElem?_eq_getElem hlt]
          rfl
        have hsp : ∃ us, xs = flat (fs.take j) ++ (encF p ++ us) := by
          refine ⟨flat (fs.drop (j + 1)) ++ tl, ?_⟩
          rw [← List.append_assoc, ← htk, ← List.append_assoc, ← flat_app, List.take_append_drop]
          exact HTL.out.1
        obtain ⟨us, hus⟩ := hsp
        obtain ⟨at', hat⟩ : ∃ at' : Nat, at' = (flat (fs.take j)).length := ⟨_, rfl⟩
        obtain ⟨L, hL⟩ : ∃ L : Nat, L = (encF p).length := ⟨_, rfl⟩
        have hmid : (xs.drop at').take L = encF p := by rw [hus, hat, List.drop_left, hL, List.take_left]
        have hln : at' + L ≤ xs.length := by have := congrArg List.length hus; simp only [List.length_append] at this; omega
        have hL12 : 12 ≤ L := by rw [hL, encF_len]; omega
        have htl : (flat (fs.take (j + 1))).length = at' + L := by rw [htk, List.length_append, ← hat, ← hL]
        have HTK := Lib.hid htl
        have hBm := (HBs.out.at_ (belowT HB2.out HB.out)).bs.midA at' L hln
        rw [hmid, if_neg (by omega)] at hBm
        rw [← hat]
        have HBM := Lib.hid hBm
        have HD' := Lib.hid hd
        have HCK := Lib.hid hck
        have HEB := Lib.hid (show ∀ x ∈ encF p, 0 ≤ x ∧ x ≤ 255 from fun x hx => (List.mem_append.1 hx).elim (enc_byt' hd x) (hby x))
        have hby' := fun W aC => fbytesC_yes p.f0.f0 p.f0.f1 p.f0.f2 p.f0.f3 p.f0.f4 A5 p.f1.length c5 p.f1 W aC hd.f0 hd.f1 hd.s0 hd.s1 hd.l0 hd.l1 hsz
        have HBY := Lib.hid hby'
        have HAC := Lib.hid aC
        have HLL := Lib.hid hL
        clear hpm hd hsz hck hby htk hus hat hmid htl hBm hby' aC hL
        go_wp2_with fail
        obtain ⟨wx, hwx⟩ : ∃ wx, wx = wr.alloc (.cells (frc p A5 c5) 45) := ⟨_, rfl⟩
        have hbx : Below wr.heap.size wr wx := by rw [hwx]; exact (Below.refl _ _).alloc (Nat.le_refl _) _
        have hh : wx.heap[wr.heap.size]? = some (.cells (frc p A5 c5) 45 (0, 0)) := by rw [hwx]; exact alloc_blk _ _
        rw [← hwx]
        refine (HBY.out wx (C_below HAC.out hbx)).mono ?_
        rintro e w4 ⟨v4, rfl, ho4, hb4⟩
        have ho4' : Own w4 wx.heap.size v4 (encF p) := ho4
        obtain ⟨A4, c4, rfl, hq4⟩ := Own.bs ho4' HEB.out
        have HB4 := Lib.hid (belowT hbx hb4)
        have e0 : w4.cell? ⟨wr.heap.size, 0, none⟩ = some (.int .u8 p.f0.f0) := cell_blk (keepB hb4 hh) rfl
        have e1 : w4.cell? ⟨wr.heap.size, 1, none⟩ = some (.int .u8 p.f0.f1) := cell_blk (keepB hb4 hh) rfl
        have e2 : w4.cell? ⟨wr.heap.size, 2, none⟩ = some (.int .u16 p.f0.f2) := cell_blk (keepB hb4 hh) rfl
        have e3 : w4.cell? ⟨wr.heap.size, 3, none⟩ = some (.int .u32 p.f0.f3) := cell_blk (keepB hb4 hh) rfl
        have e4 : w4.cell? ⟨wr.heap.size, 4, none⟩ = some (.int .u32 p.f0.f4) := cell_blk (keepB hb4 hh) rfl
        have hCa : (Kd.int .u8).C w4 A4 (encF p).length (encF p) := hq4.C
        have hCb : (Kd.int .u8).C w4 (A.map (·.add at')) L (encF p) := (HBM.out.next HB4.out).C
        rw [← HLL.out] at hCa ⊢
        obtain ⟨ep, hep⟩ : ∃ ep, ep = encF p := ⟨_, rfl⟩
        rw [← hep] at hCa hCb
        clear ho4 ho4' hb4 hbx hh hwx hq4 a0 a1 a2 a3 a4 a5 HBY HAC hep
        have hw1 : IntKind.i64.wrap ((at' : Int) + L) = at' + L := by rw [IntKind.wrap_i64]; omega
        have hs1 : (at' : Int) ≤ at' + L := by omega
        have hs2 : (at' : Int) + L ≤ c := by omega
        have hnt : ((at' : Int) + L).toNat = at' + L := by omega
        have hcn : ¬ c = at' := by omega
        have hgt : decide ((xs.length : Int) < at' + L) = false := by simp; omega
        go_wp2_with fail
        refine start_ (n := 31) (S := fun w' => w'.cell? ⟨wr.heap.size, 0, none⟩ = some (.int .u8 p.f0.f0) ∧ w'.cell? ⟨wr.heap.size, 1, none⟩ = some (.int .u8 p.f0.f1) ∧ w'.cell? ⟨wr.heap.size, 2, none⟩ = some (.int .u16 p.f0.f2) ∧ w'.cell? ⟨wr.heap.size, 3, none⟩ = some (.int .u32 p.f0.f3) ∧ w'.cell? ⟨wr.heap.size, 4, none⟩ = some (.int .u32 p.f0.f4) ∧ (Kd.int .u8).C w' A4 L ep ∧ (Kd.int .u8).C w' (A.map (·.add at')) L ep ∧ Hid (Below w4.heap.size w4 w')) (ds := []) #[false, false, false, false, false, false, false, false, false, false, false, false, false, false, false, false, false, false, false, false, false, false, false, false, false, false, false, false, false, false, false] (by kernel_rfl) rfl rfl (⟨e0, e1, e2, e3, e4, C_drew hCa, C_drew hCb, Lib.hid (Below.refl _ _).drew⟩) (fun hHeld => ?_)
        refine pure_ (i := 0) (N := some 48) (v := ?_) (a' := ?_) #[true, false, false, false, false, false, false, false, false, false, false, false, false, false, false, false, false, false, false, false, false, false, false, false, false, false, false, false, false, false, false] rfl rfl (by kernel_rfl) (fun _ _ _ h => h) (Or.inl ⟨by rfl, ?_⟩) ?_ ?_
        rotate_left
        · intro w'
          go_simp
          with_reducible rfl
        rotate_left
        · simp only [Act.put, List.setIfInBounds_toArray, List.set_cons_zero, List.set_cons_succ, i64_w, i32_w]
          rfl
        refine pure_ (i := 1) (N := some 49) (v := ?_) (a' := ?_) #[true, true, false, false, false, false, false, false, false, false, false, false, false, false, false, false, false, false, false, false, false, false, false, false, false, false, false, false, false, false, false] rfl rfl (by kernel_rfl) (fun _ _ _ h => h) (Or.inl ⟨by rfl, ?_⟩) ?_ ?_
        rotate_left
        · intro w'
          go_simp
          with_reducible rfl
        rotate_left
        · simp only [Act.put, List.setIfInBounds_toArray, List.set_cons_zero, List.set_cons_succ, i64_w, i32_w]
          rfl
        refine pure_ (i := 2) (N := some 50) (v := ?_) (a' := ?_) #[true, true, true, false, false, false, false, false, false, false, false, false, false, false, false, false, false, false, false, false, false, false, false, false, false, false, false, false, false, false, false] rfl rfl (by kernel_rfl) (fun _ _ _ h => h) (Or.inl ⟨by rfl, ?_⟩) ?_ ?_
        rotate_left
        · intro w'
          go_simp
          with_reducible rfl
        rotate_left
        · simp only [Act.put, List.setIfInBounds_toArray, List.set_cons_zero, List.set_cons_succ, i64_w, i32_w]
          rfl
        refine pure_ (i := 3) (N := some 51) (v := ?_) (a' := ?_) #[true, true, true, true, false, false, false, false, false, false, false, false, false, false, false, false, false, false, false, false, false, false, false, false, false, false, false, false, false, false, false] rfl rfl (by kernel_rfl) (fun _ _ _ h => h) (Or.inl ⟨by rfl, ?_⟩) ?_ ?_
        rotate_left
        · intro w'
          go_simp
          with_reducible rfl
        rotate_left
        · simp only [Act.put, List.setIfInBounds_toArray, List.set_cons_zero, List.set_cons_succ, i64_w, i32_w]
          rfl
        refine pure_ (i := 5) (N := some 53) (v := ?_) (a' := ?_) #[true, true, true, true, false, true, false, false, false, false, false, false, false, false, false, false, false, false, false, false, false, false, false, false, false, false, false, false, false, false, false] rfl rfl (by kernel_rfl) (fun _ _ _ h => h) (Or.inl ⟨by rfl, ?_⟩) ?_ ?_
        rotate_left
        · intro w'
          go_simp
          with_reducible rfl
        rotate_left
        · simp only [Act.put, List.setIfInBounds_toArray, List.set_cons_zero, List.set_cons_succ, i64_w, i32_w]
          rfl
        refine take_ (i := 4) (N := some 52) (v := ?_) (a' := ?_) #[true, true, true, true, true, true, false, false, false, false, false, false, false, false, false, false, false, false, false, false, false, false, false, false, false, false, false, false, false, false, false] rfl rfl (by kernel_rfl) (fun _ _ _ h => h) (Or.inl ⟨by rfl, ?_⟩) hHeld ?_ ?_
        rotate_left
        · rintro w' ⟨s0, s1, s2, s3, s4, s5, s6, s7⟩
          go_simp
          with_reducible rfl
        rotate_left
        · simp only [Act.put, List.setIfInBounds_toArray, List.set_cons_zero, List.set_cons_succ, i64_w, i32_w]
          rfl
        refine one_ (i := 6) (N := some 54) #[true, true, true, true, true, true, true, false, false, false, false, false, false, false, false, false, false, false, false, false, false, false, false, false, false, false, false, false, false, false, false] rfl rfl (by kernel_rfl) (by decide) (fun K hK => ?_)
        refine goes_ Tryd.func18 (by kernel_rfl) rfl #[hdr p.f0.f0 p.f0.f1 p.f0.f2 p.f0.f3 p.f0.f4, .int .i64 most] (by rfl) rfl rfl (by simp only [List.map_toArray, List.map_cons, List.map_nil]; rfl) ?_
        with_reducible refine (check_fine (HBs.out.at_ (belowT HB2.out (belowT HB.out (belowT HB4.out hHeld.2.2.2.2.2.2.2.out)))).good (HBs.out.at_ (belowT HB2.out (belowT HB.out (belowT HB4.out hHeld.2.2.2.2.2.2.2.out)))).law HD'.out HCK.out).mono ?_
        rintro e w5 ⟨rfl, hb5⟩
        refine ⟨_, rfl, ?_⟩
        have HB5 := Lib.hid hb5
        clear hb5
        refine hK.out _ _ (⟨keepA HB5.out hHeld.1, keepA HB5.out hHeld.2.1, keepA HB5.out hHeld.2.2.1, keepA HB5.out hHeld.2.2.2.1, keepA HB5.out hHeld.2.2.2.2.1, C_below hHeld.2.2.2.2.2.1 HB5.out, C_below hHeld.2.2.2.2.2.2.1 HB5.out, Lib.hid (belowT hHeld.2.2.2.2.2.2.2.out HB5.out)⟩) (fun hHeld => ?_)
        clear hK K
        refine norm_ (a' := ?_) ?_ ?_
        rotate_left
        · show Act.put _ (some 54) _ = _
          simp only [Act.put, List.setIfInBounds_toArray, List.set_cons_zero, List.set_cons_succ, i64_w, i32_w]
          rfl
        refine pure_ (i := 7) (N := some 55) (v := ?_) (a' := ?_) #[true, true, true, true, true, true, true, true, false, false, false, false, false, false, false, false, false, false, false, false, false, false, false, false, false, false, false, false, false, false, false] rfl rfl (by kernel_rfl) (fun _ _ _ h => h) (Or.inl ⟨by rfl, ?_⟩) ?_ ?_
        rotate_left
        · intro w'
          go_simp
          with_reducible rfl
        rotate_left
        · simp only [Act.put, List.setIfInBounds_toArray, List.set_cons_zero, List.set_cons_succ, i64_w, i32_w]
          rfl
        refine pure_ (i := 8) (N := some 56) (v := ?_) (a' := ?_) #[true, true, true, true, true, true, true, true, true, false, false, false, false, false, false, false, false, false, false, false, false, false, false, false, false, false, false, false, false, false, false] rfl rfl (by kernel_rfl) (fun _ _ _ h => h) (Or.inl ⟨by rfl, ?_⟩) ?_ ?_
        rotate_left
        · intro w'
          go_simp
          with_reducible rfl
        rotate_left
        · simp only [Act.put, List.setIfInBounds_toArray, List.set_cons_zero, List.set_cons_succ, i64_w, i32_w]
          rfl
        refine pure_ (i := 9) (N := some 57) (v := ?_) (a' := ?_) #[true, true, true, true, true, true, true, true, true, true, false, false, false, false, false, false, false, false, false, false, false, false, false, false, false, false, false, false, false, false, false] rfl rfl (by kernel_rfl) (fun _ _ _ h => h) (Or.inl ⟨by rfl, ?_⟩) ?_ ?_
        rotate_left
        · intro w'
          go_simp
          with_reducible rfl
        rotate_left
        · simp only [Act.put, List.setIfInBounds_toArray, List.set_cons_zero, List.set_cons_succ, i64_w, i32_w]
          rfl
        refine pure_ (i := 10) (N := some 58) (v := ?_) (a' := ?_) #[true, true, true, true, true, true, true, true, true, true, true, false, false, false, false, false, false, false, false, false, false, false, false, false, false, false, false, false, false, false, false] rfl rfl (by kernel_rfl) (fun _ _ _ h => h) (Or.inl ⟨by rfl, ?_⟩) ?_ ?_
        rotate_left
        · intro w'
          go_simp
          with_reducible rfl
        rotate_left
        · simp only [Act.put, List.setIfInBounds_toArray, List.set_cons_zero, List.set_cons_succ, i64_w, i32_w]
          rfl
        refine pure_ (i := 11) (N := some 59) (v := ?_) (a' := ?_) #[true, true, true, true, true, true, true, true, true, true, true, true, false, false, false, false, false, false, false, false, false, false, false, false, false, false, false, false, false, false, false] rfl rfl (by kernel_rfl) (fun _ _ _ h => h) (Or.inl ⟨by rfl, ?_⟩) ?_ ?_
        rotate_left
        · intro w'
          go_simp
          with_reducible rfl
        rotate_left
        · simp only [Act.put, List.setIfInBounds_toArray, List.set_cons_zero, List.set_cons_succ, i64_w, i32_w]
          rfl
        refine pure_ (i := 12) (N := some 60) (v := ?_) (a' := ?_) #[true, true, true, true, true, true, true, true, true, true, true, true, true, false, false, false, false, false, false, false, false, false, false, false, false, false, false, false, false, false, false] rfl rfl (by kernel_rfl) (fun _ _ _ h => h) (Or.inl ⟨by rfl, ?_⟩) ?_ ?_
        rotate_left
        · intro w'
          go_simp
          with_reducible rfl
        rotate_left
        · simp only [Act.put, List.setIfInBounds_toArray, List.set_cons_zero, List.set_cons_succ, i64_w, i32_w]
          rfl
        refine pure_ (i := 13) (N := some 61) (v := ?_) (a' := ?_) #[true, true, true, true, true, true, true, true, true, true, true, true, true, true, false, false, false, false, false, false, false, false, false, false, false, false, false, false, false, false, false] rfl rfl (by kernel_rfl) (fun _ _ _ h => h) (Or.inl ⟨by rfl, ?_⟩) ?_ ?_
        rotate_left
        · intro w'
          go_simp
          with_reducible rfl
        rotate_left
        · simp only [Act.put, List.setIfInBounds_toArray, List.set_cons_zero, List.set_cons_succ, i64_w, i32_w]
          rfl
        refine pure_ (i := 14) (N := some 62) (v := ?_) (a' := ?_) #[true, true, true, true, true, true, true, true, true, true, true, true, true, true, true, false, false, false, false, false, false, false, false, false, false, false, false, false, false, false, false] rfl rfl (by kernel_rfl) (fun _ _ _ h => h) (Or.inl ⟨by rfl, ?_⟩) ?_ ?_
        rotate_left
        · intro w'
          go_simp
          with_reducible rfl
        rotate_left
        · simp only [Act.put, List.setIfInBounds_toArray, List.set_cons_zero, List.set_cons_succ, i64_w, i32_w]
          rfl
        refine pure_ (i := 15) (N := some 63) (v := ?_) (a' := ?_) #[true, true, true, true, true, true, true, true, true, true, true, true, true, true, true, true, false, false, false, false, false, false, false, false, false, false, false, false, false, false, false] rfl rfl (by kernel_rfl) (fun _ _ _ h => h) (Or.inl ⟨by rfl, ?_⟩) ?_ ?_
        rotate_left
        · intro w'
          go_simp
          with_reducible rfl
        rotate_left
        · simp only [Act.put, List.setIfInBounds_toArray, List.set_cons_zero, List.set_cons_succ, i64_w, i32_w]
          rfl
        refine pure_ (i := 16) (N := some 64) (v := ?_) (a' := ?_) #[true, true, true, true, true, true, true, true, true, true, true, true, true, true, true, true, true, false, false, false, false, false, false, false, false, false, false, false, false, false, false] rfl rfl (by kernel_rfl) (fun _ _ _ h => h) (Or.inl ⟨by rfl, ?_⟩) ?_ ?_
        rotate_left
        · intro w'
          go_simp
          with_reducible rfl
        rotate_left
        · simp only [Act.put, List.setIfInBounds_toArray, List.set_cons_zero, List.set_cons_succ, i64_w, i32_w]
          rfl
        refine pure_ (i := 17) (N := some 65) (v := ?_) (a' := ?_) #[true, true, true, true, true, true, true, true, true, true, true, true, true, true, true, true, true, true, false, false, false, false, false, false, false, false, false, false, false, false, false] rfl rfl (by kernel_rfl) (fun _ _ _ h => h) (Or.inl ⟨by rfl, ?_⟩) ?_ ?_
        rotate_left
        · intro w'
          go_simp
          with_reducible rfl
        rotate_left
        · simp only [Act.put, List.setIfInBounds_toArray, List.set_cons_zero, List.set_cons_succ, i64_w, i32_w]
          rfl
        refine pure_ (i := 18) (N := some 66) (v := ?_) (a' := ?_) #[true, true, true, true, true, true, true, true, true, true, true, true, true, true, true, true, true, true, true, false, false, false, false, false, false, false, false, false, false, false, false] rfl rfl (by kernel_rfl) (fun _ _ _ h => h) (Or.inl ⟨by rfl, ?_⟩) ?_ ?_
        rotate_left
        · intro w'
          go_simp
          with_reducible rfl
        rotate_left
        · simp only [Act.put, List.setIfInBounds_toArray, List.set_cons_zero, List.set_cons_succ, i64_w, i32_w]
          rfl
        refine pure_ (i := 19) (N := some 67) (v := ?_) (a' := ?_) #[true, true, true, true, true, true, true, true, true, true, true, true, true, true, true, true, true, true, true, true, false, false, false, false, false, false, false, false, false, false, false] rfl rfl (by kernel_rfl) (fun _ _ _ h => h) (Or.inl ⟨by rfl, ?_⟩) ?_ ?_
        rotate_left
        · intro w'
          go_simp
          with_reducible rfl
        rotate_left
        · simp only [Act.put, List.setIfInBounds_toArray, List.set_cons_zero, List.set_cons_succ, i64_w, i32_w]
          rfl
        refine pure_ (i := 21) (N := some 69) (v := ?_) (a' := ?_) #[true, true, true, true, true, true, true, true, true, true, true, true, true, true, true, true, true, true, true, true, false, true, false, false, false, false, false, false, false, false, false] rfl rfl (by kernel_rfl) (fun _ _ _ h => h) (Or.inl ⟨by rfl, ?_⟩) ?_ ?_
        rotate_left
        · intro w'
          go_simp
          with_reducible rfl
        rotate_left
        · simp only [Act.put, List.setIfInBounds_toArray, List.set_cons_zero, List.set_cons_succ, i64_w, i32_w]
          rfl
        refine pure_ (i := 22) (N := some 70) (v := ?_) (a' := ?_) #[true, true, true, true, true, true, true, true, true, true, true, true, true, true, true, true, true, true, true, true, false, true, true, false, false, false, false, false, false, false, false] rfl rfl (by kernel_rfl) (fun _ _ _ h => h) (Or.inl ⟨by rfl, ?_⟩) ?_ ?_
        rotate_left
        · intro w'
          go_simp
          with_reducible rfl
        rotate_left
        · simp only [Act.put, List.setIfInBounds_toArray, List.set_cons_zero, List.set_cons_succ, i64_w, i32_w]
          rfl
        refine pure_ (i := 23) (N := some 71) (v := ?_) (a' := ?_) #[true, true, true, true, true, true, true, true, true, true, true, true, true, true, true, true, true, true, true, true, false, true, true, true, false, false, false, false, false, false, false] rfl rfl (by kernel_rfl) (fun _ _ _ h => h) (Or.inl ⟨by rfl, ?_⟩) ?_ ?_
        rotate_left
        · intro w'
          go_simp
          with_reducible rfl
        rotate_left
        · simp only [Act.put, List.setIfInBounds_toArray, List.set_cons_zero, List.set_cons_succ, i64_w, i32_w]
          rfl
        refine pure_ (i := 24) (N := some 72) (v := ?_) (a' := ?_) #[true, true, true, true, true, true, true, true, true, true, true, true, true, true, true, true, true, true, true, true, false, true, true, true, true, false, false, false, false, false, false] rfl rfl (by kernel_rfl) (fun _ _ _ h => h) (Or.inl ⟨by rfl, ?_⟩) ?_ ?_
        rotate_left
        · intro w'
          go_simp
          with_reducible rfl
        rotate_left
        · simp only [Act.put, List.setIfInBounds_toArray, List.set_cons_zero, List.set_cons_succ, i64_w, i32_w]
          rfl
        refine pure_ (i := 25) (N := some 73) (v := ?_) (a' := ?_) #[true, true, true, true, true, true, true, true, true, true, true, true, true, true, true, true, true, true, true, true, false, true, true, true, true, true, false, false, false, false, false] rfl rfl (by kernel_rfl) (fun _ _ _ h => h) (Or.inl ⟨by rfl, ?_⟩) ?_ ?_
        rotate_left
        · intro w'
          go_simp
          with_reducible rfl
        rotate_left
        · simp only [Act.put, List.setIfInBounds_toArray, List.set_cons_zero, List.set_cons_succ, i64_w, i32_w]
          rfl
        refine pure_ (i := 26) (N := some 74) (v := ?_) (a' := ?_) #[true, true, true, true, true, true, true, true, true, true, true, true, true, true, true, true, true, true, true, true, false, true, true, true, true, true, true, false, false, false, false] rfl rfl (by kernel_rfl) (fun _ _ _ h => h) (Or.inl ⟨by rfl, ?_⟩) ?_ ?_
        rotate_left
        · intro w'
          go_simp
          with_reducible rfl
        rotate_left
        · simp only [Act.put, List.setIfInBounds_toArray, List.set_cons_zero, List.set_cons_succ, i64_w, i32_w]
          rfl
        refine pure_ (i := 27) (N := some 75) (v := ?_) (a' := ?_) #[true, true, true, true, true, true, true, true, true, true, true, true, true, true, true, true, true, true, true, true, false, true, true, true, true, true, true, true, false, false, false] rfl rfl (by kernel_rfl) (fun _ _ _ h => h) (Or.inl ⟨by rfl, ?_⟩) ?_ ?_
        rotate_left
        · intro w'
          go_simp
          with_reducible rfl
        rotate_left
        · simp only [Act.put, List.setIfInBounds_toArray, List.set_cons_zero, List.set_cons_succ, i64_w, i32_w]
          rfl
        refine take_ (i := 20) (N := some 68) (v := ?_) (a' := ?_) #[true, true, true, true, true, true, true, true, true, true, true, true, true, true, true, true, true, true, true, true, true, true, true, true, true, true, true, true, false, false, false] rfl rfl (by kernel_rfl) (fun _ _ _ h => h) (Or.inl ⟨by rfl, ?_⟩) hHeld ?_ ?_
        rotate_left
        · rintro w' ⟨s0, s1, s2, s3, s4, s5, s6, s7⟩
          refine (conv_runC (by rfl) (by rfl) s5).trans ?_
          with_reducible rfl
        rotate_left
        · simp only [Act.put, List.setIfInBounds_toArray, List.set_cons_zero, List.set_cons_succ, i64_w, i32_w]
          rfl
        refine take_ (i := 28) (N := some 76) (v := ?_) (a' := ?_) #[true, true, true, true, true, true, true, true, true, true, true, true, true, true, true, true, true, true, true, true, true, true, true, true, true, true, true, true, true, false, false] rfl rfl (by kernel_rfl) (fun _ _ _ h => h) (Or.inl ⟨by rfl, ?_⟩) hHeld ?_ ?_
        rotate_left
        · rintro w' ⟨s0, s1, s2, s3, s4, s5, s6, s7⟩
          refine (conv_runC (by rfl) (by rfl) s6).trans ?_
          with_reducible rfl
        rotate_left
        · simp only [Act.put, List.setIfInBounds_toArray, List.set_cons_zero, List.set_cons_succ, i64_w, i32_w]
          rfl
        refine pure_ (i := 29) (N := some 77) (v := ?_) (a' := ?_) #[true, true, true, true, true, true, true, true, true, true, true, true, true, true, true, true, true, true, true, true, true, true, true, true, true, true, true, true, true, true, false] rfl rfl (by kernel_rfl) (fun _ _ _ h => h) (Or.inl ⟨by rfl, ?_⟩) ?_ ?_
        rotate_left
        · intro w'
          go_simp
          with_reducible rfl
        rotate_left
        · simp only [Act.put, List.setIfInBounds_toArray, List.set_cons_zero, List.set_cons_succ, i64_w, i32_w]
          rfl
        refine pure_ (i := 30) (N := some 78) (v := ?_) (a' := ?_) #[true, true, true, true, true, true, true, true, true, true, true, true, true, true, true, true, true, true, true, true, true, true, true, true, true, true, true, true, true, true, true] rfl rfl (by kernel_rfl) (fun _ _ _ h => h) (Or.inl ⟨by rfl, ?_⟩) ?_ ?_
        rotate_left
        · intro w'
          go_simp
          with_reducible rfl
        rotate_left
        · simp only [Act.put, List.setIfInBounds_toArray, List.set_cons_zero, List.set_cons_succ, i64_w, i32_w]
          rfl
        refine done_ (by kernel_rfl) ?_
        have HBr := Lib.hid (belowT HB.out (belowT HB4.out hHeld.2.2.2.2.2.2.2.out))
        clear hHeld HB5 e0 e1 e2 e3 e4 hCa hCb
        go_wp2_with fail
        go_roundw
        case rel => exact ⟨j + 1, by rw [HTK.out]; go_num, by go_num, by omega, HBr⟩
        case measure => simp [intOf]; omega
      · obtain rfl : j = fs.length := by omega
        have hd1 : decide ((fs.length : Int) < fs.length) = false := by simp
        have ht : fs.take fs.length = fs := List.take_length
        rw [ht]
        obtain ⟨at', hat⟩ : ∃ at' : Nat, at' = (flat fs).length := ⟨_, rfl⟩
        rw [← hat]
        have htl : xs.drop at' = tl := by rw [hat, HTL.out.1, List.drop_left]
        have hll : xs.length = at' + tl.length := by rw [hat, ← List.length_append, ← HTL.out.1]
        have HTLD := Lib.hid htl
        have hat' : at' ≤ xs.length := by omega
        have HDr := Lib.hid (HD.out.below HB.out)
        have HBr := Lib.hid (belowT HB2.out HB.out)
        clear ht hat htl HB hlt
        by_cases hc : codeX most xs = 0
        · have he : errX most xs b1 = .nilIface := by unfold errX; rw [if_pos hc]
          have hr : restX most xs = tl := (HTL.out.2.1 hc).symm
          rw [he]
          have hh := held_dec HDr.out HX.out
          rw [hr] at hh
          have hw1 : IntKind.i64.wrap ((xs.length : Int) - at') = xs.length - at' := by rw [IntKind.wrap_i64]; omega
          have hq : ((tl.length : Int) == (xs.length : Int) - at') = true := by simp; omega
          have HE := Lib.hid he
          clear he hc hll
          go_wp2_with fail
          refine hh.mono ?_
          rintro e wr ⟨rfl, rfl⟩
          go_wp2_with fail
          have h2 := err_dec HDr.out
          rw [HE.out] at h2
          refine h2.mono ?_
          rintro e wr ⟨rfl, rfl⟩
          go_wp2_with fail
          go_ret
          exact ⟨rfl, HBr.out⟩
        · obtain ⟨h12, hck, hst⟩ := HTL.out.2.2 hc
          have he : errX most xs b1 = vv b1 0 := by unfold errX; rw [if_neg hc]
          have hcr := (cut_code most xs).resolve_left hc
          have hgb : ∃ ec : Nat, ec = codeX most xs ∧ 11 ≤ ec ∧ ec ≤ 15 := ⟨_, rfl, hcr.1, hcr.2⟩
          obtain ⟨ec, hec, hc1, hc2⟩ := hgb
          have hblt : at' < c := by omega
          have hBd := (HBs.out.at_ HBr.out).bs.dropA at' hat'
          rw [HTLD.out, if_neg (by omega)] at hBd
          have hdec := decode_any (HBs.out.at_ HBr.out).good hBd
          have hI := D_in hBd.byt
          have hde : DE tl = 0 := by unfold DE; rw [if_neg h12]
          have hev : errv sa (DE tl) = .nilIface := by rw [hde]; rfl
          rw [hev] at hdec
          have hck' : chk (D0 tl) (D1 tl) (D2 tl) (D3 tl) (D4 tl) most = ec := by rw [hec]; exact hck
          rw [he]
          have hDE := HDr.out.dead hc
          have HEV := Lib.hid (show Up wr (fun W => EV sa W (1000 + ec) (stX most xs) (vv b1 0) ∧ W.cell? ⟨b1, 0, none⟩ = some (.int .u32 (stX most xs)) ∧ W.cell? ⟨w1.heap.size, 1, none⟩ = some (.slice none 0 0) ∧ W.cell? ⟨w1.heap.size, 2, none⟩ = some (.pointer (some ⟨b1, 0, none⟩))) from fun W hb => by
            have h1 := (HDr.out.below hb).ev
            have h2 := (HDr.out.below hb).dead hc
            rw [he] at h1
            unfold whyX at h1
            rw [if_neg hc, ← hec] at h1
            exact ⟨h1, cell_blk h2.2.1 rfl, cell_blk h2.1 rfl, cell_blk h2.1 rfl⟩)
          rw [← hst] at HEV
          generalize D0 tl = x0 at hdec hI hck'
          generalize D1 tl = x1 at hdec hI hck'
          generalize D2 tl = x2 at hdec hI hck'
          generalize D3 tl = x3 at hdec hI hck' HEV
          generalize D4 tl = x4 at hdec hI hck'
          have HI := Lib.hid hI
          have HCK := Lib.hid hck'
          have hs1 : (at' : Int) ≤ xs.length := by omega
          have hne : ¬ c = at' := by omega
          clear h12 hck hst hc he hcr hBd hI hde hev hck' hDE hec hll
          go_wp2_with fail
          refine hdec.mono ?_
          rintro e w3 ⟨rfl, hb3⟩
          have HB3 := Lib.hid hb3
          clear hb3 hdec
          go_wp2_with fail
          obtain ⟨w4, hw4⟩ : ∃ w4, w4 = w3.alloc (.cells #[.int .u8 x0, .int .u8 x1, .int .u16 x2, .int .u32 x3, .int .u32 x4] 26) := ⟨_, rfl⟩
          have hh4 : w4.heap[w3.heap.size]? = some (.cells #[.int .u8 x0, .int .u8 x1, .int .u16 x2, .int .u32 x3, .int .u32 x4] 26 (0, 0)) := by rw [hw4]; exact alloc_blk _ _
          have HB4 := Lib.hid (show Below wr.heap.size wr w4 by rw [hw4]; exact HB3.out.alloc HB3.out.size _)
          rw [← hw4]
          clear hw4 HB3
          refine (stream_viol (HBs.out.at_ (belowT HBr.out HB4.out)).ert b1 x3 (HEV.out.at_ HB4.out).2.1).mono ?_
          rintro e w5 ⟨rfl, hb5⟩
          have HB5 := Lib.hid (belowT HB4.out hb5)
          have HE := Lib.hid (HEV.out.next HB5.out)
          have HU := Lib.hid (HBs.out.next (belowT HBr.out HB5.out))
          have hh5 := keepB hb5 hh4
          have h0 : w5.cell? ⟨w3.heap.size, 0, none⟩ = some (.int .u8 x0) := cell_blk hh5 rfl
          have h1 : w5.cell? ⟨w3.heap.size, 1, none⟩ = some (.int .u8 x1) := cell_blk hh5 rfl
          have h2 : w5.cell? ⟨w3.heap.size, 2, none⟩ = some (.int .u16 x2) := cell_blk hh5 rfl
          have h3 : w5.cell? ⟨w3.heap.size, 3, none⟩ = some (.int .u32 x3) := cell_blk hh5 rfl
          have h4 : w5.cell? ⟨w3.heap.size, 4, none⟩ = some (.int .u32 x4) := cell_blk hh5 rfl
          clear hb5 hh4 hh5
          have hwk : IntKind.i64.wrap (1000 + (ec : Int)) = 1000 + ec := by rw [IntKind.wrap_i64]; omega
          go_wp2_with fail
          refine start_ (n := 32) (S := fun w' => w'.cell? ⟨w3.heap.size, 0, none⟩ = some (.int .u8 x0) ∧ w'.cell? ⟨w3.heap.size, 1, none⟩ = some (.int .u8 x1) ∧ w'.cell? ⟨w3.heap.size, 2, none⟩ = some (.int .u16 x2) ∧ w'.cell? ⟨w3.heap.size, 3, none⟩ = some (.int .u32 x3) ∧ w'.cell? ⟨w3.heap.size, 4, none⟩ = some (.int .u32 x4) ∧ Hid (Below w5.heap.size w5 w')) (ds := []) #[false, false, false, false, false, false, false, false, false, false, false, false, false, false, false, false, false, false, false, false, false, false, false, false, false, false, false, false, false, false, false, false] (by kernel_rfl) rfl rfl (⟨h0, h1, h2, h3, h4, Lib.hid (Below.refl _ _).drew⟩) (fun hHeld => ?_)
          refine pure_ (i := 0) (N := some 110) (v := ?_) (a' := ?_) #[true, false, false, false, false, false, false, false, false, false, false, false, false, false, false, false, false, false, false, false, false, false, false, false, false, false, false, false, false, false, false, false] rfl rfl (by kernel_rfl) (fun _ _ _ h => h) (Or.inl ⟨by rfl, ?_⟩) ?_ ?_
          rotate_left
          · intro w'
            go_simp
            with_reducible rfl
          rotate_left
          · simp only [Act.put, List.setIfInBounds_toArray, List.set_cons_zero, List.set_cons_succ, i64_w, i32_w]
            rfl
          refine pure_ (i := 1) (N := some 111) (v := ?_) (a' := ?_) #[true, true, false, false, false, false, false, false, false, false, false, false, false, false, false, false, false, false, false, false, false, false, false, false, false, false, false, false, false, false, false, false] rfl rfl (by kernel_rfl) (fun _ _ _ h => h) (Or.inl ⟨by rfl, ?_⟩) ?_ ?_
          rotate_left
          · intro w'
            go_simp
            with_reducible rfl
          rotate_left
          · simp only [Act.put, List.setIfInBounds_toArray, List.set_cons_zero, List.set_cons_succ, i64_w, i32_w]
            rfl
          refine pure_ (i := 2) (N := some 112) (v := ?_) (a' := ?_) #[true, true, true, false, false, false, false, false, false, false, false, false, false, false, false, false, false, false, false, false, false, false, false, false, false, false, false, false, false, false, false, false] rfl rfl (by kernel_rfl) (fun _ _ _ h => h) (Or.inl ⟨by rfl, ?_⟩) ?_ ?_
          rotate_left
          · intro w'
            go_simp
            with_reducible rfl
          rotate_left
          · simp only [Act.put, List.setIfInBounds_toArray, List.set_cons_zero, List.set_cons_succ, i64_w, i32_w]
            rfl
          refine pure_ (i := 3) (N := some 113) (v := ?_) (a' := ?_) #[true, true, true, true, false, false, false, false, false, false, false, false, false, false, false, false, false, false, false, false, false, false, false, false, false, false, false, false, false, false, false, false] rfl rfl (by kernel_rfl) (fun _ _ _ h => h) (Or.inl ⟨by rfl, ?_⟩) ?_ ?_
          rotate_left
          · intro w'
            go_simp
            with_reducible rfl
          rotate_left
          · simp only [Act.put, List.setIfInBounds_toArray, List.set_cons_zero, List.set_cons_succ, i64_w, i32_w]
            rfl
          refine pure_ (i := 4) (N := some 114) (v := ?_) (a' := ?_) #[true, true, true, true, true, false, false, false, false, false, false, false, false, false, false, false, false, false, false, false, false, false, false, false, false, false, false, false, false, false, false, false] rfl rfl (by kernel_rfl) (fun _ _ _ h => h) (Or.inl ⟨by rfl, ?_⟩) ?_ ?_
          rotate_left
          · intro w'
            go_simp
            with_reducible rfl
          rotate_left
          · simp only [Act.put, List.setIfInBounds_toArray, List.set_cons_zero, List.set_cons_succ, i64_w, i32_w]
            rfl
          refine pure_ (i := 5) (N := some 115) (v := ?_) (a' := ?_) #[true, true, true, true, true, true, false, false, false, false, false, false, false, false, false, false, false, false, false, false, false, false, false, false, false, false, false, false, false, false, false, false] rfl rfl (by kernel_rfl) (fun _ _ _ h => h) (Or.inl ⟨by rfl, ?_⟩) ?_ ?_
          rotate_left
          · intro w'
            go_simp
            with_reducible rfl
          rotate_left
          · simp only [Act.put, List.setIfInBounds_toArray, List.set_cons_zero, List.set_cons_succ, i64_w, i32_w]
            rfl
          refine pure_ (i := 6) (N := some 116) (v := ?_) (a' := ?_) #[true, true, true, true, true, true, true, false, false, false, false, false, false, false, false, false, false, false, false, false, false, false, false, false, false, false, false, false, false, false, false, false] rfl rfl (by kernel_rfl) (fun _ _ _ h => h) (Or.inl ⟨by rfl, ?_⟩) ?_ ?_
          rotate_left
          · intro w'
            go_simp
            with_reducible rfl
          rotate_left
          · simp only [Act.put, List.setIfInBounds_toArray, List.set_cons_zero, List.set_cons_succ, i64_w, i32_w]
            rfl
          refine pure_ (i := 7) (N := some 117) (v := ?_) (a' := ?_) #[true, true, true, true, true, true, true, true, false, false, false, false, false, false, false, false, false, false, false, false, false, false, false, false, false, false, false, false, false, false, false, false] rfl rfl (by kernel_rfl) (fun _ _ _ h => h) (Or.inl ⟨by rfl, ?_⟩) ?_ ?_
          rotate_left
          · intro w'
            go_simp
            with_reducible rfl
          rotate_left
          · simp only [Act.put, List.setIfInBounds_toArray, List.set_cons_zero, List.set_cons_succ, i64_w, i32_w]
            rfl
          refine take_ (i := 8) (N := some 118) (v := ?_) (a' := ?_) #[true, true, true, true, true, true, true, true, true, false, false, false, false, false, false, false, false, false, false, false, false, false, false, false, false, false, false, false, false, false, false, false] rfl rfl (by kernel_rfl) (fun _ _ _ h => h) (Or.inl ⟨by rfl, ?_⟩) hHeld ?_ ?_
          rotate_left
          · rintro w' ⟨s0, s1, s2, s3, s4, s5⟩
            go_simp
            with_reducible rfl
          rotate_left
          · simp only [Act.put, List.setIfInBounds_toArray, List.set_cons_zero, List.set_cons_succ, i64_w, i32_w]
            rfl
          refine pure_ (i := 9) (N := some 119) (v := ?_) (a' := ?_) #[true, true, true, true, true, true, true, true, true, true, false, false, false, false, false, false, false, false, false, false, false, false, false, false, false, false, false, false, false, false, false, false] rfl rfl (by kernel_rfl) (fun _ _ _ h => h) (Or.inl ⟨by rfl, ?_⟩) ?_ ?_
          rotate_left
          · intro w'
            go_simp
            with_reducible rfl
          rotate_left
          · simp only [Act.put, List.setIfInBounds_toArray, List.set_cons_zero, List.set_cons_succ, i64_w, i32_w]
            rfl
          refine pure_ (i := 10) (N := some 120) (v := ?_) (a' := ?_) #[true, true, true, true, true, true, true, true, true, true, true, false, false, false, false, false, false, false, false, false, false, false, false, false, false, false, false, false, false, false, false, false] rfl rfl (by kernel_rfl) (fun _ _ _ h => h) (Or.inl ⟨by rfl, ?_⟩) ?_ ?_
          rotate_left
          · intro w'
            go_simp
            with_reducible rfl
          rotate_left
          · simp only [Act.put, List.setIfInBounds_toArray, List.set_cons_zero, List.set_cons_succ, i64_w, i32_w]
            rfl
          refine pure_ (i := 11) (N := some 121) (v := ?_) (a' := ?_) #[true, true, true, true, true, true, true, true, true, true, true, true, false, false, false, false, false, false, false, false, false, false, false, false, false, false, false, false, false, false, false, false] rfl rfl (by kernel_rfl) (fun _ _ _ h => h) (Or.inl ⟨by rfl, ?_⟩) ?_ ?_
          rotate_left
          · intro w'
            go_simp
            with_reducible rfl
          rotate_left
          · simp only [Act.put, List.setIfInBounds_toArray, List.set_cons_zero, List.set_cons_succ, i64_w, i32_w]
            rfl
          refine pure_ (i := 12) (N := some 122) (v := ?_) (a' := ?_) #[true, true, true, true, true, true, true, true, true, true, true, true, true, false, false, false, false, false, false, false, false, false, false, false, false, false, false, false, false, false, false, false] rfl rfl (by kernel_rfl) (fun _ _ _ h => h) (Or.inl ⟨by rfl, ?_⟩) ?_ ?_
          rotate_left
          · intro w'
            go_simp
            with_reducible rfl
          rotate_left
          · simp only [Act.put, List.setIfInBounds_toArray, List.set_cons_zero, List.set_cons_succ, i64_w, i32_w]
            rfl
          refine pure_ (i := 15) (N := some 125) (v := ?_) (a' := ?_) #[true, true, true, true, true, true, true, true, true, true, true, true, true, false, false, true, false, false, false, false, false, false, false, false, false, false, false, false, false, false, false, false] rfl rfl (by kernel_rfl) (fun _ _ _ h => h) (Or.inl ⟨by rfl, ?_⟩) ?_ ?_
          rotate_left
          · intro w'
            go_simp
            with_reducible rfl
          rotate_left
          · simp only [Act.put, List.setIfInBounds_toArray, List.set_cons_zero, List.set_cons_succ, i64_w, i32_w]
            rfl
          refine take_ (i := 14) (N := some 124) (v := ?_) (a' := ?_) #[true, true, true, true, true, true, true, true, true, true, true, true, true, false, true, true, false, false, false, false, false, false, false, false, false, false, false, false, false, false, false, false] rfl rfl (by kernel_rfl) (fun _ _ _ h => h) (Or.inl ⟨by rfl, ?_⟩) hHeld ?_ ?_
          rotate_left
          · rintro w' ⟨s0, s1, s2, s3, s4, s5⟩
            go_simp
            with_reducible rfl
          rotate_left
          · simp only [Act.put, List.setIfInBounds_toArray, List.set_cons_zero, List.set_cons_succ, i64_w, i32_w]
            rfl
          refine one_ (i := 13) (N := some 123) #[true, true, true, true, true, true, true, true, true, true, true, true, true, true, true, true, false, false, false, false, false, false, false, false, false, false, false, false, false, false, false, false] rfl rfl (by kernel_rfl) (by decide) (fun K hK => ?_)
          refine goes_ Tryd.func19 (by kernel_rfl) rfl #[vv b1 0] (by rfl) rfl rfl (by simp only [List.map_toArray, List.map_cons, List.map_nil]; rfl) ?_
          with_reducible refine (code_any (HU.out.at_ hHeld.2.2.2.2.2.out).good (HE.out.at_ hHeld.2.2.2.2.2.out).1).mono ?_
          rintro e w6 ⟨rfl, rfl⟩
          refine ⟨_, rfl, ?_⟩
          refine hK.out _ _ (hHeld) (fun hHeld => ?_)
          clear hK K
          refine norm_ (a' := ?_) ?_ ?_
          rotate_left
          · show Act.put _ (some 123) _ = _
            simp only [Act.put, List.setIfInBounds_toArray, List.set_cons_zero, List.set_cons_succ, i64_w, i32_w]
            rfl
          refine one_ (i := 16) (N := some 126) #[true, true, true, true, true, true, true, true, true, true, true, true, true, true, true, true, true, false, false, false, false, false, false, false, false, false, false, false, false, false, false, false] rfl rfl (by kernel_rfl) (by decide) (fun K hK => ?_)
          refine goes_ Tryd.func18 (by kernel_rfl) rfl #[hdr x0 x1 x2 x3 x4, .int .i64 most] (by rfl) rfl rfl (by simp only [List.map_toArray, List.map_cons, List.map_nil]; rfl) ?_
          with_reducible refine (check_code (HU.out.at_ hHeld.2.2.2.2.2.out).good (HU.out.at_ hHeld.2.2.2.2.2.out).law HI.out HCK.out).mono ?_
          rintro e w6 ⟨rfl, hb6⟩
          refine ⟨_, rfl, ?_⟩
          have HB6 := Lib.hid hb6
          clear hb6
          refine hK.out _ _ (⟨keepA HB6.out hHeld.1, keepA HB6.out hHeld.2.1, keepA HB6.out hHeld.2.2.1, keepA HB6.out hHeld.2.2.2.1, keepA HB6.out hHeld.2.2.2.2.1, Lib.hid (belowT hHeld.2.2.2.2.2.out HB6.out)⟩) (fun hHeld => ?_)
          clear hK K
          refine norm_ (a' := ?_) ?_ ?_
          rotate_left
          · show Act.put _ (some 126) _ = _
            simp only [Act.put, List.setIfInBounds_toArray, List.set_cons_zero, List.set_cons_succ, i64_w, i32_w]
            rfl
          refine one_ (i := 17) (N := some 127) #[true, true, true, true, true, true, true, true, true, true, true, true, true, true, true, true, true, true, false, false, false, false, false, false, false, false, false, false, false, false, false, false] rfl rfl (by kernel_rfl) (by decide) (fun K hK => ?_)
          refine goes_ Tryd.func19 (by kernel_rfl) rfl #[errv sa ec] (by rfl) rfl rfl (by simp only [List.map_toArray, List.map_cons, List.map_nil]; rfl) ?_
          with_reducible refine (code_any (HU.out.at_ hHeld.2.2.2.2.2.out).good (errv_EV 0 (by omega))).mono ?_
          rintro e w6 ⟨rfl, rfl⟩
          refine ⟨_, rfl, ?_⟩
          refine hK.out _ _ (hHeld) (fun hHeld => ?_)
          clear hK K
          refine norm_ (a' := ?_) ?_ ?_
          rotate_left
          · show Act.put _ (some 127) _ = _
            simp only [Act.put, List.setIfInBounds_toArray, List.set_cons_zero, List.set_cons_succ, i64_w, i32_w]
            rfl
          refine pure_ (i := 18) (N := some 128) (v := ?_) (a' := ?_) #[true, true, true, true, true, true, true, true, true, true, true, true, true, true, true, true, true, true, true, false, false, false, false, false, false, false, false, false, false, false, false, false] rfl rfl (by kernel_rfl) (fun _ _ _ h => h) (Or.inl ⟨by rfl, ?_⟩) ?_ ?_
          rotate_left
          · intro w'
            go_simp
            with_reducible rfl
          rotate_left
          · simp only [Act.put, List.setIfInBounds_toArray, List.set_cons_zero, List.set_cons_succ, i64_w, i32_w]
            rfl
          refine pure_ (i := 19) (N := some 129) (v := ?_) (a' := ?_) #[true, true, true, true, true, true, true, true, true, true, true, true, true, true, true, true, true, true, true, true, false, false, false, false, false, false, false, false, false, false, false, false] rfl rfl (by kernel_rfl) (fun _ _ _ h => h) (Or.inl ⟨by rfl, ?_⟩) ?_ ?_
          rotate_left
          · intro w'
            go_simp
            with_reducible rfl
          rotate_left
          · simp only [Act.put, List.setIfInBounds_toArray, List.set_cons_zero, List.set_cons_succ, i64_w, i32_w]
            rfl
          refine pure_ (i := 20) (N := some 130) (v := ?_) (a' := ?_) #[true, true, true, true, true, true, true, true, true, true, true, true, true, true, true, true, true, true, true, true, true, false, false, false, false, false, false, false, false, false, false, false] rfl rfl (by kernel_rfl) (fun _ _ _ h => h) (Or.inl ⟨by rfl, ?_⟩) ?_ ?_
          rotate_left
          · intro w'
            go_simp
            with_reducible rfl
          rotate_left
          · simp only [Act.put, List.setIfInBounds_toArray, List.set_cons_zero, List.set_cons_succ, i64_w, i32_w]
            rfl
          refine pure_ (i := 21) (N := some 131) (v := ?_) (a' := ?_) #[true, true, true, true, true, true, true, true, true, true, true, true, true, true, true, true, true, true, true, true, true, true, false, false, false, false, false, false, false, false, false, false] rfl rfl (by kernel_rfl) (fun _ _ _ h => h) (Or.inl ⟨by rfl, ?_⟩) ?_ ?_
          rotate_left
          · intro w'
            go_simp
            with_reducible rfl
          rotate_left
          · simp only [Act.put, List.setIfInBounds_toArray, List.set_cons_zero, List.set_cons_succ, i64_w, i32_w]
            rfl
          refine pure_ (i := 22) (N := some 132) (v := ?_) (a' := ?_) #[true, true, true, true, true, true, true, true, true, true, true, true, true, true, true, true, true, true, true, true, true, true, true, false, false, false, false, false, false, false, false, false] rfl rfl (by kernel_rfl) (fun _ _ _ h => h) (Or.inl ⟨by rfl, ?_⟩) ?_ ?_
          rotate_left
          · intro w'
            go_simp
            with_reducible rfl
          rotate_left
          · simp only [Act.put, List.setIfInBounds_toArray, List.set_cons_zero, List.set_cons_succ, i64_w, i32_w]
            rfl
          refine one_ (i := 23) (N := some 133) #[true, true, true, true, true, true, true, true, true, true, true, true, true, true, true, true, true, true, true, true, true, true, true, true, false, false, false, false, false, false, false, false] rfl rfl (by kernel_rfl) (by decide) (fun K hK => ?_)
          refine goes_ Tryd.func22 (by kernel_rfl) rfl #[.pointer (some ⟨w1.heap.size, 0, none⟩)] (by rfl) rfl rfl (by simp only [List.map_toArray, List.map_cons, List.map_nil]; rfl) ?_
          with_reducible refine (held_any w1.heap.size 0 0 none (HE.out.at_ hHeld.2.2.2.2.2.out).2.2.1).mono ?_
          rintro e w6 ⟨rfl, rfl⟩
          refine ⟨_, rfl, ?_⟩
          refine hK.out _ _ (hHeld) (fun hHeld => ?_)
          clear hK K
          refine norm_ (a' := ?_) ?_ ?_
          rotate_left
          · show Act.put _ (some 133) _ = _
            simp only [Act.put, List.setIfInBounds_toArray, List.set_cons_zero, List.set_cons_succ, i64_w, i32_w]
            rfl
          refine pure_ (i := 24) (N := some 134) (v := ?_) (a' := ?_) #[true, true, true, true, true, true, true, true, true, true, true, true, true, true, true, true, true, true, true, true, true, true, true, true, true, false, false, false, false, false, false, false] rfl rfl (by kernel_rfl) (fun _ _ _ h => h) (Or.inl ⟨by rfl, ?_⟩) ?_ ?_
          rotate_left
          · intro w'
            go_simp
            with_reducible rfl
          rotate_left
          · simp only [Act.put, List.setIfInBounds_toArray, List.set_cons_zero, List.set_cons_succ, i64_w, i32_w]
            rfl
          refine pure_ (i := 25) (N := some 135) (v := ?_) (a' := ?_) #[true, true, true, true, true, true, true, true, true, true, true, true, true, true, true, true, true, true, true, true, true, true, true, true, true, true, false, false, false, false, false, false] rfl rfl (by kernel_rfl) (fun _ _ _ h => h) (Or.inl ⟨by rfl, ?_⟩) ?_ ?_
          rotate_left
          · intro w'
            go_simp
            with_reducible rfl
          rotate_left
          · simp only [Act.put, List.setIfInBounds_toArray, List.set_cons_zero, List.set_cons_succ, i64_w, i32_w]
            rfl
          refine pure_ (i := 26) (N := some 136) (v := ?_) (a' := ?_) #[true, true, true, true, true, true, true, true, true, true, true, true, true, true, true, true, true, true, true, true, true, true, true, true, true, true, true, false, false, false, false, false] rfl rfl (by kernel_rfl) (fun _ _ _ h => h) (Or.inl ⟨by rfl, ?_⟩) ?_ ?_
          rotate_left
          · intro w'
            go_simp
            with_reducible rfl
          rotate_left
          · simp only [Act.put, List.setIfInBounds_toArray, List.set_cons_zero, List.set_cons_succ, i64_w, i32_w]
            rfl
          refine pure_ (i := 27) (N := some 137) (v := ?_) (a' := ?_) #[true, true, true, true, true, true, true, true, true, true, true, true, true, true, true, true, true, true, true, true, true, true, true, true, true, true, true, true, false, false, false, false] rfl rfl (by kernel_rfl) (fun _ _ _ h => h) (Or.inl ⟨by rfl, ?_⟩) ?_ ?_
          rotate_left
          · intro w'
            go_simp
            with_reducible rfl
          rotate_left
          · simp only [Act.put, List.setIfInBounds_toArray, List.set_cons_zero, List.set_cons_succ, i64_w, i32_w]
            rfl
          refine one_ (i := 28) (N := some 138) #[true, true, true, true, true, true, true, true, true, true, true, true, true, true, true, true, true, true, true, true, true, true, true, true, true, true, true, true, true, false, false, false] rfl rfl (by kernel_rfl) (by decide) (fun K hK => ?_)
          refine goes_ Tryd.func23 (by kernel_rfl) rfl #[.pointer (some ⟨w1.heap.size, 0, none⟩)] (by rfl) rfl rfl (by simp only [List.map_toArray, List.map_cons, List.map_nil]; rfl) ?_
          with_reducible refine (wants_dead w1.heap.size ⟨b1, 0, none⟩ (HE.out.at_ hHeld.2.2.2.2.2.out).2.2.2).mono ?_
          rintro e w6 ⟨rfl, rfl⟩
          refine ⟨_, rfl, ?_⟩
          refine hK.out _ _ (hHeld) (fun hHeld => ?_)
          clear hK K
          refine norm_ (a' := ?_) ?_ ?_
          rotate_left
          · show Act.put _ (some 138) _ = _
            simp only [Act.put, List.setIfInBounds_toArray, List.set_cons_zero, List.set_cons_succ, i64_w, i32_w]
            rfl
          refine pure_ (i := 29) (N := some 139) (v := ?_) (a' := ?_) #[true, true, true, true, true, true, true, true, true, true, true, true, true, true, true, true, true, true, true, true, true, true, true, true, true, true, true, true, true, true, false, false] rfl rfl (by kernel_rfl) (fun _ _ _ h => h) (Or.inl ⟨by rfl, ?_⟩) ?_ ?_
          rotate_left
          · intro w'
            go_simp
            with_reducible rfl
          rotate_left
          · simp only [Act.put, List.setIfInBounds_toArray, List.set_cons_zero, List.set_cons_succ, i64_w, i32_w]
            rfl
          refine pure_ (i := 30) (N := some 140) (v := ?_) (a' := ?_) #[true, true, true, true, true, true, true, true, true, true, true, true, true, true, true, true, true, true, true, true, true, true, true, true, true, true, true, true, true, true, true, false] rfl rfl (by kernel_rfl) (fun _ _ _ h => h) (Or.inl ⟨by rfl, ?_⟩) ?_ ?_
          rotate_left
          · intro w'
            go_simp
            with_reducible rfl
          rotate_left
          · simp only [Act.put, List.setIfInBounds_toArray, List.set_cons_zero, List.set_cons_succ, i64_w, i32_w]
            rfl
          refine pure_ (i := 31) (N := some 6) (v := ?_) (a' := ?_) #[true, true, true, true, true, true, true, true, true, true, true, true, true, true, true, true, true, true, true, true, true, true, true, true, true, true, true, true, true, true, true, true] rfl rfl (by kernel_rfl) (fun _ _ _ h => h) (Or.inl ⟨by rfl, ?_⟩) ?_ ?_
          rotate_left
          · intro w'
            go_simp
            with_reducible rfl
          rotate_left
          · simp only [Act.put, List.setIfInBounds_toArray, List.set_cons_zero, List.set_cons_succ, i64_w, i32_w]
            rfl
          refine done_ (by kernel_rfl) ?_
          go_wp2_with fail
          go_ret
          exact ⟨rfl, belowT HBr.out (belowT HB5.out hHeld.2.2.2.2.2.out)⟩
end Go.Proofs.YtfddhipdedcacaaDoor
