/-
  TapHears, walked: every Feed of any pieces.
-/
import Derived.Test.YtidmgckmphcegaaGreatDoorTHRef
import Derived.Test.YtidmgckmphcegaaGreatDoorMM
import Derived.Test.YtidmgckmphcegaaGreatDoorRef5F
import Derived.Test.YtidmgckmphcegaaGreatDoorMD
namespace Go.Proofs.YtidmgckmphcegaaGreatDoor
open Go.RowKit Go.Proofs.YtidmgckmphcegaaGreatDoorW.PrintWords Go.Proofs.YtidmgckmphcegaaGreatDoorW.PrintLast Go.Proofs.YtidmgckmphcegaaGreatDoorW.PrintMore Go.Proofs.YtidmgckmphcegaaGreatDoor.Px
set_option linter.unusedVariables false
set_option linter.unusedSimpArgs false
/-- How many bytes the first j pieces have. -/
def totk (ps : List (List Int)) (j : Nat) : Nat := ((ps.take j).map List.length).sum
theorem totk_succ {ps : List (List Int)} {j : Nat} (h : j < ps.length) : totk ps (j + 1) = totk ps j + (ps.getD j []).length := by
  unfold totk
  rw [List.take_succ_eq_append_getElem h, List.map_append, List.sum_append]
  simp [List.getD_eq_getElem?_getD, List.getElem?_eq_getElem h]
theorem totk_le (ps : List (List Int)) (j : Nat) : totk ps j ≤ (ps.map List.length).sum := by
  unfold totk
  have h : (ps.map List.length).sum = ((ps.take j).map List.length).sum + ((ps.drop j).map List.length).sum := by
    rw [← List.sum_append, ← List.map_append, List.take_append_drop]
  omega
theorem TapV.cut_eq {sa : Nat → Addr} {w0 w : World} {g gd b : Nat} {most : Int} {xs zs : List Int} {v : Value} (h : TapV sa w0 w g gd most xs v b) (e : cut most zs = cut most xs) : TapV sa w0 w g gd most zs v b :=
  ⟨by have e1 : framesX most zs = framesX most xs := by unfold framesX; rw [e]
      rw [e1]; exact h.box, h.dec.cut_eq e, h.g0, h.gd0⟩
theorem TapV.step {sa : Nat → Addr} {w0 w w1 : World} {g gd b : Nat} {most : Int} {xs : List Int} {v : Value} (h : TapV sa w0 w g gd most xs v b) (hm : ∀ k, (k = g ∨ k = gd ∨ v.ownBlock = some k ∨ (codeX most xs ≠ 0 ∧ k = b)) → w1.heap[k]? = w.heap[k]?) : TapV sa w0 w1 g gd most xs v b :=
  ⟨(hm g (.inl rfl)).trans h.box, h.dec.step (hm gd (.inr (.inl rfl))) (fun k hk => hm k (.inr (.inr (.inl hk)))) (fun hc => hm b (.inr (.inr (.inr ⟨hc, rfl⟩)))), h.g0, h.gd0⟩
theorem stX_rng' (most : Int) (xs : List Int) (hx : ∀ x ∈ xs, 0 ≤ x ∧ x ≤ 255) (hc : codeX most xs ≠ 0) : 0 ≤ stX most xs ∧ stX most xs ≤ 4294967295 := by
  obtain ⟨_, tl, h1, _, h3⟩ := cut_all most xs hx
  have h4 := (h3 hc).2.2
  have h5 := D_in (ys := tl) (fun x hxt => hx x (by rw [h1]; exact List.mem_append_right _ hxt))
  show 0 ≤ (cut most xs).2.2.2 ∧ (cut most xs).2.2.2 ≤ _
  rw [← h4]
  exact ⟨h5.s0, h5.s1⟩
theorem terr_as {sa : Nat → Addr} {w0 w : World} {g gd b : Nat} {most : Int} {xs : List Int} {v ev : Value} (h : TapV sa w0 w g gd most xs v b) (he : ev = errX most xs b) :
    Calls Tryz.prog 28 #[.pointer (some ⟨g, 0, none⟩)] w fun e w' => e = .returned ev ∧ w' = w := by rw [he]; exact terr_any h
theorem flat_pre' {most : Int} {xs : List Int} (hx : ∀ x ∈ xs, 0 ≤ x ∧ x ≤ 255) : (flat (framesX most xs)).length ≤ xs.length := by
  obtain ⟨_, tl, h1, _⟩ := cut_all most xs hx
  have hl := congrArg List.length h1
  rw [List.length_append] at hl
  unfold framesX
  omega
/-- The loop's state: zs is what the reference keeps. -/
structure HStep (sa : Nat → Addr) (w1 wr : World) (g gd gm : Nat) (most : Int) (ps : List (List Int)) (j : Nat) (zs : List Int) (v : Value) (b : Nat) (M : Option Addr) (nm cm : Nat) : Prop where
  below : Below w1.heap.size w1 wr
  tap : TapV sa w1 wr g gd most zs v b
  box : wr.heap[gm]? = some (rdec most M nm cm)
  fed : FBs wr (fun k => k ≠ g ∧ k ≠ gd ∧ some k ≠ v.ownBlock ∧ k ≠ gm) M nm cm zs
  len : zs.length ≤ totk ps j
  gm0 : w1.heap.size ≤ gm
theorem HStep.ne {sa : Nat → Addr} {w1 wr : World} {g gd gm j b nm cm : Nat} {most : Int} {ps : List (List Int)} {zs : List Int} {v : Value} {M : Option Addr} (h : HStep sa w1 wr g gd gm most ps j zs v b M nm cm) : gm ≠ g ∧ gm ≠ gd ∧ some gm ≠ v.ownBlock := by
  have hb := h.box
  refine ⟨fun e => ?_, fun e => ?_, fun e => ?_⟩
  · subst e
    rw [h.tap.box] at hb; simp at hb
  · subst e
    by_cases hc : codeX most zs = 0
    · rw [(h.tap.dec.live hc).1] at hb; simp at hb
    · rw [(h.tap.dec.dead hc).1] at hb; simp at hb
  · by_cases hc : codeX most zs = 0
    · obtain ⟨cs, h1⟩ := own_typed (h.tap.dec.live hc).2 gm e.symm
      rw [h1] at hb; simp at hb
    · rw [(h.tap.dec.dead hc).2.2] at e; simp [Value.ownBlock] at e
/-- What the reference's Feed leaves: zs' is what it keeps now. -/
structure RFed (w6 : World) (g gd gm : Nat) (v : Value) (most : Int) (zs ys : List Int) (W w' : World) (M' : Option Addr) (n' c' : Nat) (zs' : List Int) (F : Option Addr) : Prop where
  len : n' ≤ zs.length + ys.length
  cut : cut most zs' = cut most (zs ++ ys)
  byt : ∀ x ∈ zs', 0 ≤ x ∧ x ≤ 255
  fed : FBs w' (fun k => ((k ≠ g ∧ k ≠ gd ∧ some k ≠ v.ownBlock ∧ k ≠ gm) ∧ k < w6.heap.size) ∨ W.heap.size ≤ k) M' n' c' zs'
  frs : Kd.F kFr w' (fun k => W.heap.size ≤ k) F (newX most zs ys).length (newX most zs ys)
  below : Below W.heap.size W w'
theorem RFed.new1 {w6 W w7 : World} {g gd gm n' c' : Nat} {v : Value} {most : Int} {zs ys zs' : List Int} {M' F : Option Addr} (hW : Below w6.heap.size w6 W) (h : RFed w6 g gd gm v most zs ys W w7 M' n' c' zs' F) (o : Obj) : RFed w6 g gd gm v most zs ys w6 (w7.alloc o) M' n' c' zs' F :=
  ⟨h.len, h.cut, h.byt, (h.fed.below ((Below.refl _ _).alloc (Nat.le_refl _) o)).mono fun k hk => hk.imp id fun e => Nat.le_trans hW.size e, Kd.F_mono (Kd.F_below h.frs ((Below.refl _ _).alloc (Nat.le_refl _) o)) fun k hk => Nat.le_trans hW.size hk, (belowT hW h.below).alloc (belowT hW h.below).size o⟩
theorem RFed.new2 {w6 W w7 : World} {g gd gm n' c' : Nat} {v : Value} {most : Int} {zs ys zs' : List Int} {M' F : Option Addr} (hW : Below w6.heap.size w6 W) (hs : w6.heap.size < W.heap.size) (h : RFed w6 g gd gm v most zs ys W w7 M' n' c' zs' F) (u1 u2 : Value) : RFed w6 g gd gm v most zs ys w6 ((w7.setCell ⟨w6.heap.size, 0, none⟩ u1).setCell ⟨w6.heap.size, 1, none⟩ u2) M' n' c' zs' F := by
  have hst : ∀ k, k ≠ w6.heap.size → ((w7.setCell ⟨w6.heap.size, 0, none⟩ u1).setCell ⟨w6.heap.size, 1, none⟩ u2).heap[k]? = w7.heap[k]? := fun k hk => by rw [set_other _ hk, set_other _ hk]
  refine ⟨h.len, h.cut, h.byt, ?_, ?_, ((belowT hW h.below).setCell (Nat.le_refl _) _).setCell (Nat.le_refl _) _⟩
  · exact (h.fed.step (w1 := (w7.setCell ⟨w6.heap.size, 0, none⟩ u1).setCell ⟨w6.heap.size, 1, none⟩ u2) fun k hk _ => hst k (by rcases hk with hk | hk <;> omega)).mono fun k hk => hk.imp id fun e => Nat.le_trans hW.size e
  · exact Kd.F_mono (Kd.F_step h.frs (W1 := (w7.setCell ⟨w6.heap.size, 0, none⟩ u1).setCell ⟨w6.heap.size, 1, none⟩ u2) fun k hk _ => hst k (by omega)) fun k hk => Nat.le_trans hW.size hk
theorem rtell_X {most : Int} {zs ys : List Int} (h0 : codeX most zs = 0) {st : Nat} (hs : (st : Int) = stX most (zs ++ ys)) : rtellL (newX most zs ys) (codeX most (zs ++ ys)) st = tellX most zs ys := by
  unfold rtellL tellX
  rw [if_pos h0, hs]
theorem new_fok {most : Int} {zs ys : List Int} (hz : ∀ x ∈ zs, 0 ≤ x ∧ x ≤ 255) (hy : ∀ x ∈ ys, 0 ≤ x ∧ x ≤ 255) : (∀ p ∈ newX most zs ys, FOk most p) ∧ (flat (newX most zs ys)).length ≤ zs.length + ys.length := by
  have hb : ∀ x ∈ zs ++ ys, 0 ≤ x ∧ x ≤ 255 := fun x h => (List.mem_append.1 h).elim (hz x) (hy x)
  obtain ⟨h1, tl, h2, _⟩ := cut_all most (zs ++ ys) hb
  have h3 := framesX_app most zs ys
  refine ⟨fun p hp => h1 p (by show p ∈ framesX most (zs ++ ys); rw [h3]; exact List.mem_append_right _ hp), ?_⟩
  have h4 := congrArg List.length h2
  rw [List.length_append, List.length_append] at h4
  have h5 : (flat (framesX most (zs ++ ys))).length = (flat (framesX most zs)).length + (flat (newX most zs ys)).length := by rw [h3, flat_app, List.length_append]
  unfold framesX at h5
  omega
theorem why_int (most : Int) (xs : List Int) : ((whyX most xs : Nat) : Int) = if codeX most xs = 0 then 0 else 1000 + (codeX most xs : Int) := by
  unfold whyX; split
  · rfl
  · rw [Int.natCast_add]; rfl
set_option maxRecDepth 100000 in
set_option maxHeartbeats 4000000 in
theorem tapHears_walk {sa : Nat → Addr} {w : World} (hE : TE sa w) (most : Int) (A : Option Addr) (n c : Nat) (ps : List (List Int)) (hP : Pcs w A n c ps) (hs : (ps.map List.length).sum + n ≤ 10000000) :
    Calls Tryz.prog 11 #[.int .i64 most, .slice A n c] w fun e w' => e = .returned (.bool true) ∧ Below w.heap.size w w' := by
  have HE := Lib.hid hE
  have HP := Lib.hid hP
  obtain rfl := hP.len
  have hcap := hP.cap
  have HSZ := Lib.hid hs
  have hpn : ps.length ≤ 10000000 := by omega
  clear hE hP hs
  go_enter Tryz.func11, Tryz.ntmps11
  go_wp2_with fail
  refine (wakes_any HE.out).mono ?_
  rintro e w1 ⟨rfl, hb1⟩
  have HB1 := Lib.hid hb1
  have HP1 := Lib.hid (HP.out.next hb1)
  have HE1 := Lib.hid (HE.out.below hb1)
  clear hb1 HP HE
  by_cases hmm : most < 1 ∨ 65536 < most
  · go_wp2_with fail
    refine (tnew_no HE1.out.good most hmm).mono ?_
    rintro e w2 ⟨rfl, hb2⟩
    have HB2 := Lib.hid hb2
    clear hb2
    go_wp2_with fail
    refine (rnew_no most _ hmm).mono ?_
    rintro e w3 ⟨rfl, hb3⟩
    have HB3 := Lib.hid (belowT HB2.out hb3)
    clear hb3
    have HB4 := Lib.hid (HB3.out.alloc HB3.out.size (.cells #[.int .i64 0, .slice none 0 0] 65))
    go_wp2_with fail
    refine (code_any (HE1.out.below HB4.out).good (.inr (.inl ⟨by omega, by omega, rfl⟩) : EV sa _ 2 0 (sv (sa 2)))).mono ?_
    rintro e w4 ⟨rfl, rfl⟩
    go_wp2_with fail
    go_ret
    exact ⟨rfl, belowT HB1.out HB4.out⟩
  · have m1 : 1 ≤ most := by omega
    have m2 : most ≤ 65536 := by omega
    go_wp2_with fail
    refine (tnew_yes sa (w0 := w1) (w := w1) (Nat.le_refl _) most m1 m2).mono ?_
    rintro e w2 ⟨g, gd, rfl, hgl, hgdl, hv2, hb2⟩
    have HV2 := Lib.hid hv2
    have HB2 := Lib.hid hb2
    clear hv2 hb2
    go_wp2_with fail
    refine (rnew_yes most _ m1 m2).mono ?_
    rintro e w3 ⟨rfl, hb3⟩
    have HB3 := Lib.hid (belowT HB2.out hb3)
    have HV3 := Lib.hid (HV2.out.below hb3)
    clear hb3 HV2
    obtain ⟨w4, hw4⟩ : ∃ w4, w4 = w3.alloc (.cells #[.int .i64 most, .slice none 0 0] 65) := ⟨_, rfl⟩
    have hb34 : Below w3.heap.size w3 w4 := by rw [hw4]; exact (Below.refl _ _).alloc (Nat.le_refl _) _
    have hm4 : w4.heap[w3.heap.size]? = some (rdec most none 0 0) := by rw [hw4]; exact alloc_at _ _
    have HS4 := Lib.hid (show HStep sa w1 w4 g gd w3.heap.size most ps 0 [] (.slice none 0 0) 0 none 0 0 from ⟨belowT HB3.out hb34, HV3.out.below hb34, hm4, fun _ _ => ⟨rfl, by omega, by omega, (fun x hx => by cases hx), fun _ => ⟨rfl, rfl⟩, fun h => absurd h (by omega)⟩, by simp, HB3.out.size⟩)
    have HW4 := Lib.hid hw4
    have hz3 : w1.heap.size ≤ w3.heap.size := HB3.out.size
    clear hw4 hb34 hm4
    go_wp2_with fail
    rw [← HW4.out]
    refine (code_nil _).mono ?_
    rintro e w5 ⟨rfl, rfl⟩
    go_wp2_with fail
    go_loopw [9] (fun jj wr => ∃ (j : Nat) (zs : List Int) (v : Value) (b : Nat) (M : Option Addr) (nm cm : Nat), jj = .int .i64 j ∧ j ≤ ps.length ∧ Hid (HStep sa w1 wr g gd w3.heap.size most ps j zs v b M nm cm)) (fun jj _ => ps.length - (intOf jj).toNat)
    case atStart => exact ⟨0, [], _, 0, none, 0, 0, rfl, by omega, HS4⟩
    case round =>
      obtain ⟨j, zs, v, b, M, nm, cm, rfl, hj, HS⟩ := hrel
      by_cases hlt : j < ps.length
      · have hd1 : decide ((j : Int) < ps.length) = true := by simp; omega
        have hk0 : (0 : Int) ≤ (j : Int) := by omega
        have hk1 : (j : Int) < (ps.length : Int) := by omega
        obtain ⟨bp, op, rfl, hrd⟩ := HP1.out.rd (by omega)
        obtain ⟨Ap, cp, hcell1, hBp1⟩ := hrd j hlt
        obtain ⟨ys, hys⟩ : ∃ ys, ys = ps.getD j [] := ⟨_, rfl⟩
        rw [← hys] at hcell1 hBp1
        have HY := Lib.hid hys
        have HC1 := Lib.hid hcell1
        have HBP1 := Lib.hid hBp1
        have HYX := Lib.hid hBp1.byt
        have hnm : zs.length = nm := HS.out.fed.now.len
        have hbd : nm + ys.length ≤ 10000000 := by
          have h1 := totk_succ hlt
          have h2 := totk_le ps (j + 1)
          have h3 := HS.out.len
          have h4 := HSZ.out
          rw [← hys] at h1
          omega
        have HNM := Lib.hid hnm
        have m0 : wr.cell? ⟨w3.heap.size, 0, none⟩ = some (.int .i64 most) := cell_blk HS.out.box rfl
        have m1' : wr.cell? ⟨w3.heap.size, 1, none⟩ = some (.slice M nm cm) := cell_blk HS.out.box rfl
        clear hrd hys hcell1 hBp1 hnm
        go_wp2_with fail
        refine (told_F most M nm cm zs HS.out.fed.now m1 m2 (by omega)).mono ?_
        rintro e w5 ⟨A5, c5, rfl, hq1, hq2, hb5⟩
        obtain ⟨w6, hw6⟩ : ∃ w6, w6 = w5.alloc (.cells #[.slice A5 (framesX most zs).length c5, .int .i64 (restX most zs).length, .int .i64 (whyX most zs), .int .u32 (stX most zs)] 69) := ⟨_, rfl⟩
        have hb56 : Below wr.heap.size wr w6 := by rw [hw6]; exact hb5.alloc hb5.size _
        have hx6 : w6.heap[w5.heap.size]? = some (rtold (.slice A5 (framesX most zs).length c5) (restX most zs).length (whyX most zs) (stX most zs)) := by rw [hw6]; exact alloc_at _ _
        have hz5 : wr.heap.size ≤ w5.heap.size := hb5.size
        have HW6 := Lib.hid hw6
        have HB6 := Lib.hid hb56
        have HX6 := Lib.hid hx6
        have p0 : w6.cell? ⟨w3.heap.size, 0, none⟩ = some (.int .i64 most) := keepA hb56 m0
        have p1 : w6.cell? ⟨w3.heap.size, 1, none⟩ = some (.slice M nm cm) := keepA hb56 m1'
        have p2 : w6.cell? ⟨bp, op + j, none⟩ = some (.slice Ap ys.length cp) := keepA (belowT HS.out.below hb56) HC1.out
        have HFD6 := Lib.hid (HS.out.fed.below hb56)
        have HBP6 := Lib.hid (HBP1.out.next (belowT HS.out.below hb56))
        clear hw6 hb56 hx6 hb5 m0 m1' hq1 hq2
        have hfe : ∀ W, Below w6.heap.size w6 W → Calls Tryz.prog 34 #[.agg #[.int .i64 most, .slice M nm cm], .slice Ap ys.length cp] W fun e w' => ∃ M' n' c' zs' F f, e = .returned (.tuple #[.agg #[.int .i64 most, .slice M' n' c'], .slice F (newX most zs ys).length f, .int .i64 (whyX most (zs ++ ys))]) ∧ RFed w6 g gd w3.heap.size v most zs ys W w' M' n' c' zs' F := fun W hW =>
          (rfeed_any (ok := fun k => (k ≠ g ∧ k ≠ gd ∧ some k ≠ v.ownBlock ∧ k ≠ w3.heap.size) ∧ k < w6.heap.size) most M nm cm zs ((show FBs w6 (fun k => (k ≠ g ∧ k ≠ gd ∧ some k ≠ v.ownBlock ∧ k ≠ w3.heap.size) ∧ k < w6.heap.size) M nm cm zs from Foot.bound HFD6.out).below hW) Ap ys.length cp ys (HBP6.out.next hW) m1 m2 (by omega)).mono fun e w' ⟨M', n', c', zs', F, f, he, hn', hcut, hzx, hfed, hF, hb⟩ => ⟨M', n', c', zs', F, f, he, ⟨by rw [HNM.out]; exact hn', hcut, hzx, hfed, hF, hb⟩⟩
        have HFE := Lib.hid hfe
        have p0' := fun o => cell?_alloc_old o p0
        have p1' := fun o => cell?_alloc_old o p1
        have p2' := fun o => cell?_alloc_old o p2
        clear hfe
        go_upto_region 13 with fail
        rw [← HW6.out]
        go_cut [11, 12, 13] (fun n11 n12 n13 wx => Hid (∃ gx M' n' c' zs' F f, n11 = .pointer (some ⟨gx, 0, none⟩) ∧ n12 = .slice F (newX most zs ys).length f ∧ n13 = .int .i64 (whyX most (zs ++ ys)) ∧ wx.heap[gx]? = some (rdec most M' n' c') ∧ RFed w6 g gd w3.heap.size v most zs ys w6 wx M' n' c' zs' F))
        case first =>
          go_region_with (go_at_call 34; refine (HFE.out _ (by first | exact (Below.refl _ _).drew | exact ((Below.refl _ _).alloc (Nat.le_refl _) _).drew | trace_state)).mono ?_; rintro e w7 ⟨M', n', c', zs', F, f, rfl, hR⟩; have HR := Lib.hid hR; clear hR; try (have hx7 : w7.heap[w6.heap.size]? = some (rdec 0 none 0 0) := keepB HR.out.below (alloc_at w6 _); have HX7 := Lib.hid hx7; have e0 : w7.cell? ⟨w6.heap.size, 0, none⟩ = some (.int .i64 0) := cell_blk hx7 rfl; have e1 : w7.cell? ⟨w6.heap.size, 1, none⟩ = some (.slice none 0 0) := cell_blk hx7 rfl; have e2 : ∀ i, w7.frozen? ⟨w6.heap.size, i, none⟩ = false := fun i => free_blk hx7; clear hx7))
          all_goals (go_wp2_with fail)
          all_goals go_meet
          all_goals first
            | exact Lib.hid ⟨_, _, _, _, _, _, _, rfl, rfl, rfl, alloc_at _ _, HR.out.new1 (by first | exact (Below.refl _ _).drew | exact Below.refl _ _) _⟩
            | exact Lib.hid ⟨_, _, _, _, _, _, _, rfl, rfl, rfl, set_blk _ (set_blk _ HX7.out), HR.out.new2 (by first | exact ((Below.refl _ _).alloc (Nat.le_refl _) _).drew | exact (Below.refl _ _).alloc (Nat.le_refl _) _) (by simp) _ _⟩
        case rest =>
          rename World => w7
          obtain ⟨gx, M', n', c', zs', F, f, rfl, rfl, rfl, hgx, hR⟩ := hcut.out
          have HR := Lib.hid hR
          obtain ⟨ng, ngd, nv⟩ := HS.out.ne
          have hgl' : g < wr.heap.size := HS.out.tap.lt
          have hgdl' : gd < wr.heap.size := HS.out.tap.dec.glt
          have hvl : ∀ k, v.ownBlock = some k → k < wr.heap.size := HS.out.tap.dec.vlt
          have hml : w3.heap.size < wr.heap.size := (Array.getElem?_eq_some_iff.1 HS.out.box).1
          have hz6 : wr.heap.size ≤ w6.heap.size := HB6.out.size
          have hdb : w7.heap[w3.heap.size]? = some (rdec most M nm cm) := keepB hR.below (keepB HB6.out HS.out.box)
          have n0 : w7.cell? ⟨gx, 0, none⟩ = some (.int .i64 most) := cell_blk hgx rfl
          have n1 : w7.cell? ⟨gx, 1, none⟩ = some (.slice M' n' c') := cell_blk hgx rfl
          have k0 : w7.cell? ⟨w3.heap.size, 0, none⟩ = some (.int .i64 most) := cell_blk hdb rfl
          have k1 : w7.cell? ⟨w3.heap.size, 1, none⟩ = some (.slice M nm cm) := cell_blk hdb rfl
          have k2 : ∀ i, w7.frozen? ⟨w3.heap.size, i, none⟩ = false := fun i => free_blk hdb
          have HDB := Lib.hid hdb
          have HNG := Lib.hid ng
          have HNGD := Lib.hid ngd
          have HNV := Lib.hid nv
          have HVL := Lib.hid hvl
          clear hcut hgx hR hdb ng ngd nv hvl p0 p1 p2 p0' p1' p2'
          go_upto_region 15 with fail
          obtain ⟨w8, hw8⟩ : ∃ w8, w8 = (w7.setCell ⟨w3.heap.size, 0, none⟩ (.int .i64 most)).setCell ⟨w3.heap.size, 1, none⟩ (.slice M' n' c') := ⟨_, rfl⟩
          have hst : ∀ k, k ≠ w3.heap.size → w8.heap[k]? = w7.heap[k]? := fun k hk => by rw [hw8, set_other _ hk, set_other _ hk]
          have hm8 : w8.heap[w3.heap.size]? = some (rdec most M' n' c') := by rw [hw8]; exact set_blk _ (set_blk _ HDB.out)
          have hb8 : Below w1.heap.size w1 w8 := by rw [hw8]; exact ((belowT HS.out.below (belowT HB6.out HR.out.below)).setCell hz3 _).setCell hz3 _
          have hv7 : TapV sa w1 w7 g gd most zs v b := HS.out.tap.below (belowT HB6.out HR.out.below)
          have hv8 : TapV sa w1 w8 g gd most zs v b := hv7.step (fun k hk => hst k (by
            rcases hk with rfl | rfl | hk | ⟨hc, rfl⟩
            · exact fun e => HNG.out e.symm
            · exact fun e => HNGD.out e.symm
            · exact fun e => HNV.out (by rw [← e]; exact hk.symm)
            · intro e
              have h1 := (hv7.dec.dead hc).2.1
              rw [e, HDB.out] at h1; simp at h1))
          have hfd8 : FBs w8 (fun k => k ≠ g ∧ k ≠ gd ∧ some k ≠ v.ownBlock ∧ k ≠ w3.heap.size) M' n' c' zs' := (HR.out.fed.step (w1 := w8) fun k hk _ => hst k (by rcases hk with hk | hk <;> omega)).mono fun k hk => by
            rcases hk with hk | hk
            · exact hk.1
            · exact ⟨by omega, by omega, fun e => by have := HVL.out k e.symm; omega, by omega⟩
          have hfr8 := Kd.F_step HR.out.frs (W1 := w8) (fun k hk _ => hst k (by omega))
          have hx8 : w8.heap[w5.heap.size]? = some (rtold (.slice A5 (framesX most zs).length c5) (restX most zs).length (whyX most zs) (stX most zs)) := (hst _ (by omega)).trans (keepB HR.out.below HX6.out)
          rw [← hw8]
          have HV8 := Lib.hid hv8
          have HB8 := Lib.hid hb8
          have HFD8 := Lib.hid hfd8
          have HFR8 := Lib.hid hfr8
          have HX8 := Lib.hid hx8
          have HM8 := Lib.hid hm8
          have k0' : w8.cell? ⟨w3.heap.size, 0, none⟩ = some (.int .i64 most) := cell_blk hm8 rfl
          have k1' : w8.cell? ⟨w3.heap.size, 1, none⟩ = some (.slice M' n' c') := cell_blk hm8 rfl
          have hlen' : zs'.length = n' := hfd8.now.len
          have hz8 : wr.heap.size ≤ w8.heap.size := Nat.le_trans hz6 (by rw [hw8]; simpa using HR.out.below.size)
          have hln := HR.out.len
          have HLEN := Lib.hid hlen'
          have HZX := Lib.hid HR.out.byt
          have HCUT := Lib.hid HR.out.cut
          have hnn : zs.length = nm := HNM.out
          have ht := told_F most M' n' c' zs' hfd8.now m1 m2 (by omega)
          clear hst hm8 hb8 hv7 hv8 hfd8 hfr8 hx8 hw8 n0 n1 k0 k1 k2 hlen'
          go_wp2_with fail
          refine ht.mono ?_
          rintro e w9 ⟨A9, c9, rfl, hl9, hF9, hb9⟩
          obtain ⟨wz, hwz⟩ : ∃ wz, wz = w9.alloc (.cells #[.slice A9 (framesX most zs').length c9, .int .i64 (restX most zs').length, .int .i64 (whyX most zs'), .int .u32 (stX most zs')] 69) := ⟨_, rfl⟩
          have hb8z : Below w8.heap.size w8 wz := by rw [hwz]; exact hb9.alloc hb9.size _
          have htz : wz.heap[w9.heap.size]? = some (rtold (.slice A9 (framesX most zs').length c9) (restX most zs').length (whyX most zs') (stX most zs')) := by rw [hwz]; exact alloc_at _ _
          have hz9 : w8.heap.size ≤ w9.heap.size := hb9.size
          have hgnz : w9.heap.size < wz.heap.size := (Array.getElem?_eq_some_iff.1 htz).1
          have HTZ := Lib.hid htz
          have HB8z := Lib.hid hb8z
          have HBz := Lib.hid (belowT HB8.out hb8z)
          have HVz := Lib.hid (HV8.out.below hb8z)
          have HFRz := Lib.hid (Kd.F_below HFR8.out hb8z)
          have HF9z := Lib.hid (Kd.F_below hF9 (show Below w9.heap.size w9 wz by rw [hwz]; exact (Below.refl _ _).alloc (Nat.le_refl _) _))
          have hWz : wz = w9.alloc (.cells #[.slice A9 (framesX most zs').length c9, .int .i64 (restX most zs').length, .int .i64 (whyX most zs'), .int .u32 (stX most zs')] 69) := hwz
          have HWZ := Lib.hid hWz
          have hxz := keepB hb8z HX8.out
          obtain ⟨wy, hwy⟩ : ∃ wy : Nat, wy = whyX most zs := ⟨_, rfl⟩
          rw [← hwy] at hxz
          have x2 : wz.cell? ⟨w5.heap.size, 2, none⟩ = some (.int .i64 wy) := cell_blk hxz rfl
          have y3 : wz.cell? ⟨w9.heap.size, 3, none⟩ = some (.int .u32 (stX most zs')) := cell_blk htz rfl
          obtain ⟨hfk, hfl⟩ := new_fok (most := most) HS.out.fed.now.byt HYX.out
          have hNF := (HS.out.fed.now.byt)
          have hst0 : codeX most (zs ++ ys) ≠ 0 → 0 ≤ stX most (zs ++ ys) ∧ stX most (zs ++ ys) ≤ 4294967295 := fun hc => stX_rng' most (zs ++ ys) (fun x h => (List.mem_append.1 h).elim (hNF x) (HYX.out x)) hc
          have hst1 : codeX most (zs ++ ys) = 0 → stX most (zs ++ ys) = 0 := fun hc => ((cut_left most (zs ++ ys)).1 hc).2
          have hcc := cut_code most (zs ++ ys)
          have es : stX most zs' = stX most (zs ++ ys) := by unfold stX; rw [HCUT.out]
          have ey : whyX most zs' = whyX most (zs ++ ys) := by unfold whyX codeX; rw [HCUT.out]
          obtain ⟨st, hst⟩ : ∃ st : Nat, (st : Int) = stX most (zs ++ ys) := by
            by_cases hc : codeX most (zs ++ ys) = 0
            · exact ⟨0, by rw [hst1 hc]; rfl⟩
            · exact ⟨(stX most (zs ++ ys)).toNat, by have := hst0 hc; omega⟩
          have hst4 : st ≤ 4294967295 := by
            by_cases hc : codeX most (zs ++ ys) = 0
            · have := hst1 hc; omega
            · have := hst0 hc; omega
          obtain ⟨wt, hwt⟩ : ∃ wt : ByteArray, wt = ⟨(tellX most zs ys).toArray⟩ := ⟨_, rfl⟩
          have HRT := Lib.hid (fun (h0 : codeX most zs = 0) => rtold26_any (cc := f) rfl HFRz.out hfk (by omega) (codeX most (zs ++ ys)) st hst4 (hcc.imp id id) (whyX most (zs ++ ys)) (why_int most (zs ++ ys)))
          have HRX := Lib.hid (fun (h0 : codeX most zs = 0) => rtell_X (most := most) (ys := ys) h0 hst)
          rw [es, ← hst] at y3
          have HES := Lib.hid es
          have HST := Lib.hid hst
          have HEY := Lib.hid ey
          have HWY := Lib.hid hwy
          have HWT := Lib.hid hwt
          clear hwz hb8z htz hb9 hF9 ht hl9 hxz hfk hfl hNF hst0 hst1 hcc es hst ey hwy hwt k0' k1' hWz
          go_upto_region 16 with fail
          rw [← HWZ.out]
          go_upto_if 66 with fail
          go_cut [15] (fun s15 wx => s15 = .string wt ∧ Hid (Below wz.heap.size wz wx))
          case first =>
            by_cases hc0 : codeX most zs = 0
            · have hw0 : wy = 0 := by rw [HWY.out]; unfold whyX; rw [if_pos hc0]
              subst hw0
              have hrt := HRT.out hc0
              rw [HRX.out hc0, ← HWT.out] at hrt
              have HRT' := Lib.hid hrt
              clear hrt
              go_wp2_with fail
              refine HRT'.out.mono ?_
              rintro e wq ⟨rfl, hbq⟩
              have HBQ := Lib.hid hbq
              clear hbq
              go_wp2_with fail
              go_meet
              exact ⟨rfl, HBQ⟩
            · have hw0 : ((wy : Int) == 0) = false := by
                have : wy = 1000 + codeX most zs := by rw [HWY.out]; unfold whyX; rw [if_neg hc0]
                simp; omega
              have htx : wt = ⟨#[]⟩ := by rw [HWT.out]; unfold tellX; rw [if_neg hc0]
              subst htx
              go_wp2_with fail
              go_meet
              exact ⟨rfl, Lib.hid (Below.refl _ _)⟩
          case rest =>
            rename World => wq
            obtain ⟨rfl, HBq⟩ := hcut
            have htq := keepB HBq.out HTZ.out
            obtain ⟨wn, hwn⟩ : ∃ wn : Nat, wn = whyX most zs' := ⟨_, rfl⟩
            rw [← hwn, HES.out, ← HST.out] at htq
            have hq0 : wq.cell? ⟨bp, op + j, none⟩ = some (.slice Ap ys.length cp) := keepA (belowT HBz.out HBq.out) HC1.out
            have hq1 : wq.cell? ⟨w9.heap.size, 0, none⟩ = some (.slice A9 (framesX most zs').length c9) := cell_blk htq rfl
            have hq2 : wq.cell? ⟨w9.heap.size, 2, none⟩ = some (.int .i64 wn) := cell_blk htq rfl
            have HTQ := Lib.hid htq
            have HWN := Lib.hid hwn
            have HBq1 := Lib.hid (belowT HBz.out HBq.out)
            have HBPq := Lib.hid (HBP1.out.next HBq1.out)
            have HVq := Lib.hid (HVz.out.below HBq.out)
            have HF9q := Lib.hid (Kd.F_below HF9z.out HBq.out)
            have HFDq := Lib.hid (HFD8.out.below (belowT HB8z.out HBq.out))
            have HMq := Lib.hid (keepB HBq.out (keepB HB8z.out HM8.out))
            have hzq : wz.heap.size ≤ wq.heap.size := HBq.out.size
            have hnt : (wt.toList != wt.toList) = false := by simp
            have hnw : (((wn : Nat) : Int) != ((wn : Nat) : Int)) = false := by simp
            have hfl9 : (flat (framesX most zs')).length ≤ 1099511627776 := by
              have h1 := (flat_pre' (most := most) HZX.out)
              rw [HLEN.out] at h1
              omega
            have HC1q := Lib.hid hq0
            have HC2q := Lib.hid hq1
            have HC3q := Lib.hid hq2
            clear htq hwn hq0 hq1 hq2 x2 y3 HBq HTZ HB8z HVz HF9z HFD8 HM8 HX8 HRT HRX HV8 HFR8 HFRz
            go_upto_region 19 with fail
            refine start_ (n := 25) (S := fun w' => w'.cell? ⟨bp, op + j, none⟩ = some (.slice Ap ys.length cp) ∧ w'.cell? ⟨w9.heap.size, 0, none⟩ = some (.slice A9 (framesX most zs').length c9) ∧ w'.cell? ⟨w9.heap.size, 2, none⟩ = some (.int .i64 wn) ∧ Hid (Below w1.heap.size w1 w')) (ds := []) #[false, false, false, false, false, false, false, false, false, false, false, false, false, false, false, false, false, false, false, false, false, false, false, false, false] (by kernel_rfl) rfl rfl (⟨HC1q.out, HC2q.out, HC3q.out, Lib.hid (belowT HBq1.out (Below.refl _ _).drew)⟩) (fun hHeld => ?_)
            refine pure_ (i := 0) (N := some 72) (v := ?_) (a' := ?_) #[true, false, false, false, false, false, false, false, false, false, false, false, false, false, false, false, false, false, false, false, false, false, false, false, false] rfl rfl (by kernel_rfl) (fun _ _ _ h => h) (Or.inl ⟨by rfl, ?_⟩) ?_ ?_
            rotate_left
            · intro w'
              go_simp
              with_reducible rfl
            rotate_left
            · simp only [Act.put, List.setIfInBounds_toArray, List.set_cons_zero, List.set_cons_succ, i64_w, i32_w]
              rfl
            refine pure_ (i := 2) (N := some 74) (v := ?_) (a' := ?_) #[true, false, true, false, false, false, false, false, false, false, false, false, false, false, false, false, false, false, false, false, false, false, false, false, false] rfl rfl (by kernel_rfl) (fun _ _ _ h => h) (Or.inl ⟨by rfl, ?_⟩) ?_ ?_
            rotate_left
            · intro w'
              go_simp
              with_reducible rfl
            rotate_left
            · simp only [Act.put, List.setIfInBounds_toArray, List.set_cons_zero, List.set_cons_succ, i64_w, i32_w]
              rfl
            refine pure_ (i := 3) (N := some 75) (v := ?_) (a' := ?_) #[true, false, true, true, false, false, false, false, false, false, false, false, false, false, false, false, false, false, false, false, false, false, false, false, false] rfl rfl (by kernel_rfl) (fun _ _ _ h => h) (Or.inl ⟨by rfl, ?_⟩) ?_ ?_
            rotate_left
            · intro w'
              go_simp
              with_reducible rfl
            rotate_left
            · simp only [Act.put, List.setIfInBounds_toArray, List.set_cons_zero, List.set_cons_succ, i64_w, i32_w]
              rfl
            refine pure_ (i := 4) (N := some 76) (v := ?_) (a' := ?_) #[true, false, true, true, true, false, false, false, false, false, false, false, false, false, false, false, false, false, false, false, false, false, false, false, false] rfl rfl (by kernel_rfl) (fun _ _ _ h => h) (Or.inl ⟨by rfl, ?_⟩) ?_ ?_
            rotate_left
            · intro w'
              go_simp
              with_reducible rfl
            rotate_left
            · simp only [Act.put, List.setIfInBounds_toArray, List.set_cons_zero, List.set_cons_succ, i64_w, i32_w]
              rfl
            refine pure_ (i := 8) (N := some 80) (v := ?_) (a' := ?_) #[true, false, true, true, true, false, false, false, true, false, false, false, false, false, false, false, false, false, false, false, false, false, false, false, false] rfl rfl (by kernel_rfl) (fun _ _ _ h => h) (Or.inl ⟨by rfl, ?_⟩) ?_ ?_
            rotate_left
            · intro w'
              go_simp
              with_reducible rfl
            rotate_left
            · simp only [Act.put, List.setIfInBounds_toArray, List.set_cons_zero, List.set_cons_succ, i64_w, i32_w]
              rfl
            refine take_ (i := 5) (N := some 77) (v := ?_) (a' := ?_) #[true, false, true, true, true, true, false, false, true, false, false, false, false, false, false, false, false, false, false, false, false, false, false, false, false] rfl rfl (by kernel_rfl) (fun _ _ _ h => h) (Or.inl ⟨by rfl, ?_⟩) hHeld ?_ ?_
            rotate_left
            · rintro w' ⟨s0, s1, s2, s3⟩
              go_simp
              with_reducible rfl
            rotate_left
            · simp only [Act.put, List.setIfInBounds_toArray, List.set_cons_zero, List.set_cons_succ, i64_w, i32_w]
              rfl
            refine one_ (i := 1) (N := some 73) #[true, true, true, true, true, true, false, false, true, false, false, false, false, false, false, false, false, false, false, false, false, false, false, false, false] rfl rfl (by kernel_rfl) (by decide) (fun K hK => ?_)
            refine value_ (w1 := ?_) (v := ?_) (by rfl) rfl ?_ ?_
            rotate_left 2
            · go_simp
              constructor
              · rfl
              · rfl
            have hoa : Own (wq.alloc (.cells #[] 5)).drew wq.heap.size (.slice (some ⟨wq.heap.size, 0, none⟩) 0 0) [] := own_new wq wq.heap.size [] (Nat.le_refl _) (by simp)
            have hba : Below wq.drew.heap.size wq.drew (wq.alloc (.cells #[] 5)).drew := below_da _ _
            generalize (wq.alloc (.cells #[] 5)).drew = wa at hoa hba ⊢
            have HOa := Lib.hid hoa
            have HBa := Lib.hid hba
            clear hoa hba
            refine hK.out _ _ (⟨keepA HBa.out hHeld.1, keepA HBa.out hHeld.2.1, keepA HBa.out hHeld.2.2.1, Lib.hid (belowT hHeld.2.2.2.out HBa.out)⟩) (fun hHeld => ?_)
            clear hK K
            refine norm_ (a' := ?_) ?_ ?_
            rotate_left
            · show Act.put _ (some 73) _ = _
              simp only [Act.put, List.setIfInBounds_toArray, List.set_cons_zero, List.set_cons_succ, i64_w, i32_w]
              rfl
            refine one_ (i := 6) (N := some 78) #[true, true, true, true, true, true, true, false, true, false, false, false, false, false, false, false, false, false, false, false, false, false, false, false, false] rfl rfl (by kernel_rfl) (by decide) (fun K hK => ?_)
            rw [if_pos (by rfl)]
            refine wp_append_bs (.tmp 73) (.tmp 77) rfl wq.heap.size (.slice (some ⟨wq.heap.size, 0, none⟩) 0 0) [] rfl HOa.out Ap ys.length cp ys rfl (HBPq.out.next (belowT (Below.refl _ _).drew HBa.out)) (by simp; omega) (belowT (Below.refl _ _).drew HBa.out).size ?_
            intro vb wb hob hgb _
            have HBb := Lib.hid ((show Below wq.heap.size wq wa from belowT (Below.refl _ _).drew HBa.out).grown hgb (belowT (Below.refl _ _).drew HBa.out).size (fun k hk => (HOa.out.lt k hk).1))
            obtain ⟨Ab, cb, rfl, hqb⟩ := Own.bs (show Own wb wq.heap.size vb ys from hob) HYX.out
            have HQb := Lib.hid hqb
            have HVb := Lib.hid (HVq.out.below HBb.out)
            have HBb1 := Lib.hid (belowT HBq1.out HBb.out)
            have hzb : wq.heap.size ≤ wb.heap.size := HBb.out.size
            clear hob hgb hqb
            refine hK.out _ _ (⟨keepA HBb.out HC1q.out, keepA HBb.out HC2q.out, keepA HBb.out HC3q.out, HBb1⟩) (fun hHeld => ?_)
            clear hK K
            refine norm_ (a' := ?_) ?_ ?_
            rotate_left
            · show Act.put _ (some 78) _ = _
              simp only [Act.put, List.setIfInBounds_toArray, List.set_cons_zero, List.set_cons_succ, i64_w, i32_w]
              rfl
            refine one_ (i := 7) (N := some 79) #[true, true, true, true, true, true, true, true, true, false, false, false, false, false, false, false, false, false, false, false, false, false, false, false, false] rfl rfl (by kernel_rfl) (by decide) (fun K hK => ?_)
            refine goes_ Tryz.func36 (by kernel_rfl) rfl #[.pointer (some ⟨g, 0, none⟩), .slice Ab ys.length cb] (by rfl) rfl rfl (by simp only [List.map_toArray, List.map_cons, List.map_nil]; rfl) ?_
            with_reducible refine (tfeed_any HE1.out.good HE1.out.law HE1.out.pow HE1.out.wrd HE1.out.ert g gd most zs v b HBb1.out HVb.out HS.out.fed.now.byt Ab ys.length cb ys HQb.out m1 m2 (by omega)).mono ?_
            rintro e wc ⟨v5, b5, rfl, hF5⟩
            refine ⟨_, rfl, ?_⟩
            rw [← HWT.out]
            have hkk : ∀ k, k < wb.heap.size → k ≠ g → k ≠ gd → some k ≠ v.ownBlock → wc.heap[k]? = wb.heap[k]? := fun k h1 h2 h3 h4 => hF5.kept.2 k h1 (fun h => h.elim h2 fun h => h.elim h3 h4)
            have hnow : wc.heap[w9.heap.size]? = some (rtold (.slice A9 (framesX most zs').length c9) (restX most zs').length wn st) := (hkk _ (by omega) (by omega) (by omega) (fun e => by have := HVL.out _ e.symm; omega)).trans (keepB HBb.out HTQ.out)
            have hmc : wc.heap[w3.heap.size]? = some (rdec most M' n' c') := (hkk _ (by omega) HNG.out HNGD.out HNV.out).trans (keepB HBb.out HMq.out)
            have hvc : TapV sa w1 wc g gd most zs' v5 b5 := hF5.tap.cut_eq HCUT.out
            have hv5 : ∀ k, k < wb.heap.size → some k ≠ v.ownBlock → some k ≠ v5.ownBlock := fun k h1 h2 => by
              rcases hF5.row with h | h | ⟨i, h, hi⟩
              · rw [h]; exact h2
              · rw [h]; simp
              · rw [h]; intro e; injection e with e; omega
            have hfdc : FBs wc (fun k => k ≠ g ∧ k ≠ gd ∧ some k ≠ v5.ownBlock ∧ k ≠ w3.heap.size) M' n' c' zs' := by
              have h1 := HFDq.out.below HBb.out
              have h2 : FBs wb (fun k => (k ≠ g ∧ k ≠ gd ∧ some k ≠ v.ownBlock ∧ k ≠ w3.heap.size) ∧ k < wb.heap.size) M' n' c' zs' := Foot.bound h1
              exact (h2.step (w1 := wc) fun k hk hlt => hkk k hlt hk.1.1 hk.1.2.1 hk.1.2.2.1).mono fun k hk => ⟨hk.1.1, hk.1.2.1, hv5 k hk.2 hk.1.2.2.1, hk.1.2.2.2⟩
            have hF9c : Kd.F kFr wc (fun k => w8.heap.size ≤ k) A9 (framesX most zs').length (framesX most zs') := Kd.F_step (Kd.F_below HF9q.out HBb.out) fun k hk hlt => hkk k hlt (by omega) (by omega) (fun e => by have := HVL.out k e.symm; omega)
            have HNOW := Lib.hid hnow
            have HMC := Lib.hid hmc
            have HVC := Lib.hid hvc
            have HFDC := Lib.hid hfdc
            have HF9C := Lib.hid hF9c
            have HBC := Lib.hid hF5.below
            obtain ⟨ev, hev⟩ : ∃ ev, ev = errX most zs' b5 := ⟨_, rfl⟩
            have HEV := Lib.hid hev
            have hec : EV sa wc wn (stX most zs') ev := by rw [HWN.out, hev]; exact hvc.dec.ev
            have HEC := Lib.hid hec
            clear hkk hnow hmc hvc hv5 hfdc hF9c hF5 hev hec
            refine hK.out _ _ (⟨keepA HBC.out HC1.out, cell_blk HNOW.out rfl, cell_blk HNOW.out rfl, HBC⟩) (fun hHeld => ?_)
            clear hK K
            refine norm_ (a' := ?_) ?_ ?_
            rotate_left
            · show Act.put _ (some 79) _ = _
              simp only [Act.put, List.setIfInBounds_toArray, List.set_cons_zero, List.set_cons_succ, i64_w, i32_w]
              rfl
            refine pure_ (i := 9) (N := some 81) (v := ?_) (a' := ?_) #[true, true, true, true, true, true, true, true, true, true, false, false, false, false, false, false, false, false, false, false, false, false, false, false, false] rfl rfl (by kernel_rfl) (fun _ _ _ h => h) (Or.inl ⟨by rfl, ?_⟩) ?_ ?_
            rotate_left
            · intro w'
              go_simp
              with_reducible rfl
            rotate_left
            · simp only [Act.put, List.setIfInBounds_toArray, List.set_cons_zero, List.set_cons_succ, i64_w, i32_w]
              rfl
            refine pure_ (i := 10) (N := some 82) (v := ?_) (a' := ?_) #[true, true, true, true, true, true, true, true, true, true, true, false, false, false, false, false, false, false, false, false, false, false, false, false, false] rfl rfl (by kernel_rfl) (fun _ _ _ h => h) (Or.inl ⟨by rfl, ?_⟩) ?_ ?_
            rotate_left
            · intro w'
              go_simp
              with_reducible rfl
            rotate_left
            · simp only [Act.put, List.setIfInBounds_toArray, List.set_cons_zero, List.set_cons_succ, i64_w, i32_w]
              rfl
            refine pure_ (i := 11) (N := some 83) (v := ?_) (a' := ?_) #[true, true, true, true, true, true, true, true, true, true, true, true, false, false, false, false, false, false, false, false, false, false, false, false, false] rfl rfl (by kernel_rfl) (fun _ _ _ h => h) (Or.inl ⟨by rfl, ?_⟩) ?_ ?_
            rotate_left
            · intro w'
              go_simp
              with_reducible rfl
            rotate_left
            · simp only [Act.put, List.setIfInBounds_toArray, List.set_cons_zero, List.set_cons_succ, i64_w, i32_w]
              rfl
            refine pure_ (i := 12) (N := some 84) (v := ?_) (a' := ?_) #[true, true, true, true, true, true, true, true, true, true, true, true, true, false, false, false, false, false, false, false, false, false, false, false, false] rfl rfl (by kernel_rfl) (fun _ _ _ h => h) (Or.inl ⟨by rfl, ?_⟩) ?_ ?_
            rotate_left
            · intro w'
              go_simp
              with_reducible rfl
            rotate_left
            · simp only [Act.put, List.setIfInBounds_toArray, List.set_cons_zero, List.set_cons_succ, i64_w, i32_w]
              rfl
            refine take_ (i := 13) (N := some 85) (v := ?_) (a' := ?_) #[true, true, true, true, true, true, true, true, true, true, true, true, true, true, false, false, false, false, false, false, false, false, false, false, false] rfl rfl (by kernel_rfl) (fun _ _ _ h => h) (Or.inl ⟨by rfl, ?_⟩) hHeld ?_ ?_
            rotate_left
            · rintro w' ⟨s0, s1, s2, s3⟩
              go_simp
              with_reducible rfl
            rotate_left
            · simp only [Act.put, List.setIfInBounds_toArray, List.set_cons_zero, List.set_cons_succ, i64_w, i32_w]
              rfl
            refine one_ (i := 14) (N := some 86) #[true, true, true, true, true, true, true, true, true, true, true, true, true, true, true, false, false, false, false, false, false, false, false, false, false] rfl rfl (by kernel_rfl) (by decide) (fun K hK => ?_)
            refine goes_ Tryz.func37 (by kernel_rfl) rfl #[.pointer (some ⟨g, 0, none⟩), .slice A9 (framesX most zs').length c9] (by rfl) rfl rfl (by simp only [List.map_toArray, List.map_cons, List.map_nil]; rfl) ?_
            with_reducible refine (seen_yes HVC.out HZX.out rfl rfl HF9C.out hfl9).mono ?_
            rintro e wd ⟨rfl, hbd⟩
            refine ⟨_, rfl, ?_⟩
            have HBD := Lib.hid hbd
            have HBD1 := Lib.hid (belowT HBC.out hbd)
            clear hbd
            refine hK.out _ _ (⟨keepA HBD.out hHeld.1, keepA HBD.out hHeld.2.1, keepA HBD.out hHeld.2.2.1, HBD1⟩) (fun hHeld => ?_)
            clear hK K
            refine norm_ (a' := ?_) ?_ ?_
            rotate_left
            · show Act.put _ (some 86) _ = _
              simp only [Act.put, List.setIfInBounds_toArray, List.set_cons_zero, List.set_cons_succ, i64_w, i32_w]
              rfl
            refine pure_ (i := 15) (N := some 87) (v := ?_) (a' := ?_) #[true, true, true, true, true, true, true, true, true, true, true, true, true, true, true, true, false, false, false, false, false, false, false, false, false] rfl rfl (by kernel_rfl) (fun _ _ _ h => h) (Or.inl ⟨by rfl, ?_⟩) ?_ ?_
            rotate_left
            · intro w'
              go_simp
              with_reducible rfl
            rotate_left
            · simp only [Act.put, List.setIfInBounds_toArray, List.set_cons_zero, List.set_cons_succ, i64_w, i32_w]
              rfl
            refine pure_ (i := 16) (N := some 88) (v := ?_) (a' := ?_) #[true, true, true, true, true, true, true, true, true, true, true, true, true, true, true, true, true, false, false, false, false, false, false, false, false] rfl rfl (by kernel_rfl) (fun _ _ _ h => h) (Or.inl ⟨by rfl, ?_⟩) ?_ ?_
            rotate_left
            · intro w'
              go_simp
              with_reducible rfl
            rotate_left
            · simp only [Act.put, List.setIfInBounds_toArray, List.set_cons_zero, List.set_cons_succ, i64_w, i32_w]
              rfl
            refine pure_ (i := 17) (N := some 89) (v := ?_) (a' := ?_) #[true, true, true, true, true, true, true, true, true, true, true, true, true, true, true, true, true, true, false, false, false, false, false, false, false] rfl rfl (by kernel_rfl) (fun _ _ _ h => h) (Or.inl ⟨by rfl, ?_⟩) ?_ ?_
            rotate_left
            · intro w'
              go_simp
              with_reducible rfl
            rotate_left
            · simp only [Act.put, List.setIfInBounds_toArray, List.set_cons_zero, List.set_cons_succ, i64_w, i32_w]
              rfl
            refine pure_ (i := 18) (N := some 90) (v := ?_) (a' := ?_) #[true, true, true, true, true, true, true, true, true, true, true, true, true, true, true, true, true, true, true, false, false, false, false, false, false] rfl rfl (by kernel_rfl) (fun _ _ _ h => h) (Or.inl ⟨by rfl, ?_⟩) ?_ ?_
            rotate_left
            · intro w'
              go_simp
              with_reducible rfl
            rotate_left
            · simp only [Act.put, List.setIfInBounds_toArray, List.set_cons_zero, List.set_cons_succ, i64_w, i32_w]
              rfl
            refine pure_ (i := 21) (N := some 93) (v := ?_) (a' := ?_) #[true, true, true, true, true, true, true, true, true, true, true, true, true, true, true, true, true, true, true, false, false, true, false, false, false] rfl rfl (by kernel_rfl) (fun _ _ _ h => h) (Or.inl ⟨by rfl, ?_⟩) ?_ ?_
            rotate_left
            · intro w'
              go_simp
              with_reducible rfl
            rotate_left
            · simp only [Act.put, List.setIfInBounds_toArray, List.set_cons_zero, List.set_cons_succ, i64_w, i32_w]
              rfl
            refine take_ (i := 22) (N := some 94) (v := ?_) (a' := ?_) #[true, true, true, true, true, true, true, true, true, true, true, true, true, true, true, true, true, true, true, false, false, true, true, false, false] rfl rfl (by kernel_rfl) (fun _ _ _ h => h) (Or.inl ⟨by rfl, ?_⟩) hHeld ?_ ?_
            rotate_left
            · rintro w' ⟨s0, s1, s2, s3⟩
              go_simp
              with_reducible rfl
            rotate_left
            · simp only [Act.put, List.setIfInBounds_toArray, List.set_cons_zero, List.set_cons_succ, i64_w, i32_w]
              rfl
            refine one_ (i := 19) (N := some 91) #[true, true, true, true, true, true, true, true, true, true, true, true, true, true, true, true, true, true, true, true, false, true, true, false, false] rfl rfl (by kernel_rfl) (by decide) (fun K hK => ?_)
            refine goes_ Tryz.func28 (by kernel_rfl) rfl #[.pointer (some ⟨g, 0, none⟩)] (by rfl) rfl rfl (by simp only [List.map_toArray, List.map_cons, List.map_nil]; rfl) ?_
            with_reducible refine (terr_as (HVC.out.below HBD.out) HEV.out).mono ?_
            rintro e we ⟨rfl, rfl⟩
            refine ⟨_, rfl, ?_⟩
            refine hK.out _ _ (hHeld) (fun hHeld => ?_)
            clear hK K
            refine norm_ (a' := ?_) ?_ ?_
            rotate_left
            · show Act.put _ (some 91) _ = _
              simp only [Act.put, List.setIfInBounds_toArray, List.set_cons_zero, List.set_cons_succ, i64_w, i32_w]
              rfl
            refine one_ (i := 20) (N := some 92) #[true, true, true, true, true, true, true, true, true, true, true, true, true, true, true, true, true, true, true, true, true, true, true, false, false] rfl rfl (by kernel_rfl) (by decide) (fun K hK => ?_)
            refine goes_ Tryz.func19 (by kernel_rfl) rfl #[ev] (by rfl) rfl rfl (by simp only [List.map_toArray, List.map_cons, List.map_nil]; rfl) ?_
            with_reducible refine (code_any (HE1.out.below HBD1.out).good (ev_below HEC.out HBD.out)).mono ?_
            rintro e we ⟨rfl, rfl⟩
            refine ⟨_, rfl, ?_⟩
            refine hK.out _ _ (hHeld) (fun hHeld => ?_)
            clear hK K
            refine norm_ (a' := ?_) ?_ ?_
            rotate_left
            · show Act.put _ (some 92) _ = _
              simp only [Act.put, List.setIfInBounds_toArray, List.set_cons_zero, List.set_cons_succ, i64_w, i32_w]
              rfl
            refine pure_ (i := 23) (N := some 95) (v := ?_) (a' := ?_) #[true, true, true, true, true, true, true, true, true, true, true, true, true, true, true, true, true, true, true, true, true, true, true, true, false] rfl rfl (by kernel_rfl) (fun _ _ _ h => h) (Or.inl ⟨by rfl, ?_⟩) ?_ ?_
            rotate_left
            · intro w'
              go_simp
              with_reducible rfl
            rotate_left
            · simp only [Act.put, List.setIfInBounds_toArray, List.set_cons_zero, List.set_cons_succ, i64_w, i32_w]
              rfl
            refine pure_ (i := 24) (N := some 96) (v := ?_) (a' := ?_) #[true, true, true, true, true, true, true, true, true, true, true, true, true, true, true, true, true, true, true, true, true, true, true, true, true] rfl rfl (by kernel_rfl) (fun _ _ _ h => h) (Or.inl ⟨by rfl, ?_⟩) ?_ ?_
            rotate_left
            · intro w'
              go_simp
              with_reducible rfl
            rotate_left
            · simp only [Act.put, List.setIfInBounds_toArray, List.set_cons_zero, List.set_cons_succ, i64_w, i32_w]
              rfl
            refine done_ (by kernel_rfl) ?_
            have HBD2 := Lib.hid (HBD.out)
            clear hHeld
            have hnd := keepB HBD2.out HNOW.out
            have HNOWd := Lib.hid hnd
            clear hnd
            go_wp2_with fail
            refine (terr_as (HVC.out.below HBD2.out) HEV.out).mono ?_
            rintro e we ⟨rfl, rfl⟩
            have HFIN : Hid (∀ wf, Below we.heap.size we wf → HStep sa w1 wf g gd w3.heap.size most ps (j + 1) zs' v5 b5 M' n' c') := Lib.hid fun wf hbf => ⟨belowT HBD1.out hbf, HVC.out.below (belowT HBD2.out hbf), keepB (belowT HBD2.out hbf) HMC.out, HFDC.out.below (belowT HBD2.out hbf), by
              have h1 := totk_succ hlt
              have h2 := HS.out.len
              rw [← HY.out] at h1
              rw [HLEN.out]
              omega, hz3⟩
            by_cases hc : codeX most zs' = 0
            · have he : ev = .nilIface := by rw [HEV.out]; exact if_pos hc
              have hw0 : wn = 0 := by rw [HWN.out]; unfold whyX; rw [if_pos hc]
              have hs0 : st = 0 := by
                have h1 : stX most zs' = 0 := ((cut_left most zs').1 hc).2
                have h2 := HST.out
                rw [← HES.out, h1] at h2
                omega
              subst he hw0 hs0
              have hn2 : we.cell? ⟨w9.heap.size, 2, none⟩ = some (.int .i64 0) := cell_blk HNOWd.out rfl
              have hn3 : we.cell? ⟨w9.heap.size, 3, none⟩ = some (.int .u32 0) := cell_blk HNOWd.out rfl
              have HN2 := Lib.hid hn2
              have HN3 := Lib.hid hn3
              clear hn2 hn3 hnw
              go_wp2_with fail
              refine stream_nil.mono ?_
              rintro e wf ⟨rfl, hbf⟩
              have hn2 := keepA hbf HN2.out
              have hn3 := keepA hbf HN3.out
              have HBF := Lib.hid hbf
              clear hbf
              go_wp2_with fail
              go_roundw
              case rel => exact ⟨j + 1, zs', v5, b5, M', n', c', by go_num, by omega, Lib.hid (HFIN.out _ HBF.out)⟩
              case measure => simp [intOf]; omega
            · have he : ev = vv b5 0 := by rw [HEV.out]; exact if_neg hc
              have hw0 : wn = 1000 + codeX most zs' := by rw [HWN.out]; unfold whyX; rw [if_neg hc]
              have hwp : (((wn : Nat) : Int) != 0) = true := by simp; omega
              have hsb : we.cell? ⟨b5, 0, none⟩ = some (.int .u32 st) := by
                have h1 := keepB HBD2.out (HVC.out.dec.dead hc).2.1
                rw [HES.out, ← HST.out] at h1
                exact cell_blk h1 rfl
              have hss : (((st : Nat) : Int) != ((st : Nat) : Int)) = false := by simp
              have hn2 : we.cell? ⟨w9.heap.size, 2, none⟩ = some (.int .i64 wn) := cell_blk HNOWd.out rfl
              have hn3 : we.cell? ⟨w9.heap.size, 3, none⟩ = some (.int .u32 st) := cell_blk HNOWd.out rfl
              have HN2 := Lib.hid hn2
              have HN3 := Lib.hid hn3
              have HSB := Lib.hid (stream_viol (keepA HBD1.out HE1.out.ert) b5 st hsb)
              subst he
              clear hn2 hn3 hnw hsb hw0
              go_wp2_with fail
              refine HSB.out.mono ?_
              rintro e wf ⟨rfl, hbf⟩
              have hn2 := keepA hbf HN2.out
              have hn3 := keepA hbf HN3.out
              have HBF := Lib.hid hbf
              clear hbf
              go_wp2_with fail
              go_roundw
              case rel => exact ⟨j + 1, zs', v5, b5, M', n', c', by go_num, by omega, Lib.hid (HFIN.out _ HBF.out)⟩
              case measure => simp [intOf]; omega
      · have hd1 : decide ((j : Int) < ps.length) = false := by simp; omega
        go_wp2_with fail
        go_ret
        exact ⟨rfl, belowT HB1.out HS.out.below⟩
end Go.Proofs.YtidmgckmphcegaaGreatDoor
