/-
 culvertlaw26.apart: two taps that hear the same in turns.
-/
import Derived.Test.YtidmgckmphcegaaGreatDoorTSpoil
import Derived.Test.YtidmgckmphcegaaGreatDoorTHeard
namespace Go.Proofs.YtidmgckmphcegaaGreatDoor
open Go Go.RowKit Go.Proofs.YtidmgckmphcegaaGreatDoorW.PrintWords Go.Proofs.YtidmgckmphcegaaGreatDoorW.PrintLast Go.Proofs.YtidmgckmphcegaaGreatDoor.Px
set_option linter.unusedVariables false
set_option linter.unusedSimpArgs false
theorem CR.bsx {W : World} {b n c : Nat} {f : Nat → Int} {xs : List Int} (h : CR W b 0 n c f) (hl : xs.length = n) (e : ∀ j, j < n → f j = xs.getD j 0) (hx : ∀ x ∈ xs, 0 ≤ x ∧ x ≤ 255) : Bs W (some ⟨b, 0, none⟩) n c xs :=
 ⟨hl, h.le, h.max, hx, (fun e => by cases e), fun _ => ⟨b, 0, rfl, fun j hj => by rw [h.rd j hj, e j hj]⟩⟩
theorem terr_ev' {sa : Nat → Addr} {w0 w : World} {g gd b : Nat} {most : Int} {xs : List Int} {v : Value} (h : TapV sa w0 w g gd most xs v b) : ∃ ev, EV sa w (whyX most xs) (stX most xs) ev ∧
    Calls Tryz.prog 28 #[.pointer (some ⟨g, 0, none⟩)] w fun e w' => e = .returned ev ∧ w' = w := ⟨_, h.dec.ev, terr_any h⟩
theorem conv_runB {o : Oper} {a : Act} {x : Operand} {A : Option Addr} {n c : Nat} {xs : List Int} {w : World} (hop : o.op = .convert 26 9 x) (hx : a.eval x = .slice A n c) (h : Bs w A n c xs) : (execOp a.eval o).run Tryz.prog w = .ok (.value (.string (strOfNums xs))) w := by
 unfold execOp
 simp only [hop, hx, Sem.run_bind, str_of h, Result.andThen_ok, Sem.run_pure]
structure Full (W : World) (B g n c : Nat) (ys : List Int) : Prop where
 n_ : ys.length = n
 cr : CR W g 0 (n + 2) c (fun j => (ys ++ [170, 187]).getD j 0)
 lt : g < W.heap.size
 ge : B ≤ g
 ty : ∃ cs, W.heap[g]? = some (.cells cs 5 (0, 0))
theorem Full.of {W : World} {B : Nat} {v : Value} {ys : List Int} (h : Own W B v (ys ++ [170, 187])) : ∃ g c, v = .slice (some ⟨g, 0, none⟩) (ys.length + 2) c ∧ Full W B g ys.length c ys := by
 obtain ⟨g, c, e, h1, h2, h3⟩ := h.cr (by simp)
 have hl : (ys ++ [170, 187]).length = ys.length + 2 := by simp
 rw [hl] at e h3
 exact ⟨g, c, e, rfl, h3, h2, h1, own_typed h g (by rw [e]; rfl)⟩
theorem Full.bs {W : World} {B g n c : Nat} {ys : List Int} (h : Full W B g n c ys) (hx : ∀ x ∈ ys, 0 ≤ x ∧ x ≤ 255) : Bs W (some ⟨g, 0, none⟩) n c ys := by
 have hn := h.n_
 exact (h.cr.pre (Nat.le_add_right _ _)).bsx hn (fun j hj => by simp [List.getD_eq_getElem?_getD, List.getElem?_append_left (show j < ys.length by omega)]) hx
theorem Full.c0 {W : World} {B g n c : Nat} {ys : List Int} (h : Full W B g n c ys) : W.cell? ⟨g, n, none⟩ = some (.int .u8 170) := by
 have hn := h.n_
 have := h.cr.rd n (by omega)
 rw [Nat.zero_add] at this
 rw [this]
 subst hn
 simp [List.getD_eq_getElem?_getD]
theorem Full.c1 {W : World} {B g n c : Nat} {ys : List Int} (h : Full W B g n c ys) : W.cell? ⟨g, n + 1, none⟩ = some (.int .u8 187) := by
 have hn := h.n_
 have := h.cr.rd (n + 1) (by omega)
 rw [Nat.zero_add] at this
 rw [this]
 subst hn
 simp [List.getD_eq_getElem?_getD]
theorem Full.blk {W W1 : World} {B g n c : Nat} {ys : List Int} (h : Full W B g n c ys) (e : W1.heap[g]? = W.heap[g]?) : Full W1 B g n c ys :=
 ⟨h.n_, h.cr.blk e, by obtain ⟨cs, hc⟩ := h.ty; rw [← e] at hc; exact (Array.getElem?_eq_some_iff.1 hc).1, h.ge, by rw [e]; exact h.ty⟩
theorem Full.below {W W1 : World} {B g n c : Nat} {ys : List Int} (h : Full W B g n c ys) (hb : Below W.heap.size W W1) : Full W1 B g n c ys := h.blk (hb.block g h.lt)
set_option maxRecDepth 100000 in
set_option maxHeartbeats 4000000 in
theorem apart26_any {sa : Nat → Addr} {w : World} (hE : TE sa w) {A : Option Addr} {n c : Nat} {ps : List (List Int)} (hP : Pcs w A n c ps) (hs : (ps.map List.length).sum + n ≤ 100000000) :
    Calls Tryz.prog 30 #[.slice A n c] w fun e w' => e = .returned (.bool true) ∧ Below w.heap.size w w' := by
 obtain rfl := hP.len
 have hbt := pcs_byt hP
 have HP := Lib.hid hP
 have HE := Lib.hid hE
 have HSZ := Lib.hid hs
 have HBT := Lib.hid hbt
 have hn1 : ps.length ≤ 100000000 := by omega
 have hcap := hP.cap
 have hnew := tnew_yes sa (w0 := w) (w := w) (Nat.le_refl _) 40 (by omega) (by omega)
 clear hP hs hE hbt
 go_enter Tryz.func30, Tryz.ntmps30
 go_wp2_with fail
 refine hnew.mono ?_
 rintro e w1 ⟨g, gd, rfl, hgl, hgdl, hv1, hb1⟩
 have HV1 := Lib.hid hv1
 have HB1 := Lib.hid hb1
 have hnew2 := tnew_yes sa (w0 := w) (w := w1) hb1.size 40 (by omega) (by omega)
 clear hv1 hb1 hnew hgl hgdl
 go_wp2_with fail
 refine hnew2.mono ?_
 rintro e w2 ⟨g', gd', rfl, hgl', hgdl', hv2, hb2⟩
 have HT := Lib.hid (show Two sa w w2 40 [] [] g gd 0 (.slice none 0 0) g' gd' 0 (.slice none 0 0) from ⟨HV1.out.below hb2, hv2, by have := HV1.out.lt; omega, by have := HV1.out.gdlt; omega, fun k h => by simp [Value.ownBlock] at h⟩)
 have HB2 := Lib.hid (belowT HB1.out hb2)
 clear hv2 hb2 hnew2 hgl' hgdl' HV1 HB1
 go_wp2_with fail
 go_loopw [7] (fun i wr => ∃ (k : Nat) (v v' : Value) (b b' : Nat), k ≤ ps.length ∧ i = .int .i64 k ∧ Hid (Two sa w wr 40 (ps.take k).flatten (ps.take k).flatten g gd b v g' gd' b' v') ∧ Hid (Below w.heap.size w wr)) (fun i _ => ps.length - (intOf i).toNat)
 case atStart => exact ⟨0, _, _, _, _, by omega, rfl, HT, HB2⟩
 case round =>
  obtain ⟨k, v, v', b, b', hk, rfl, HR, HB⟩ := hrel
  rename World => wr
  by_cases hlt : k < ps.length
  · have hlt' : (k : Int) < ps.length := by omega
    obtain ⟨bp, op, rfl, hrd⟩ := HP.out.rd (by omega)
    obtain ⟨Ap, cp, hcell0, hBp⟩ := hrd k hlt
    have hfl := flat_take_succ hlt
    have hsm := sumLen hlt
    have hxs := flat_mem HBT.out k
    obtain ⟨ys, hys⟩ : ∃ ys, ys = ps.getD k [] := ⟨_, rfl⟩
    rw [← hys] at hcell0 hBp hfl hsm
    have hyb := hBp.byt
    obtain ⟨xs, hxs'⟩ : ∃ xs, xs = (ps.take k).flatten := ⟨_, rfl⟩
    rw [← hxs'] at HR hfl hsm hxs
    have hzz : xs.length + ys.length ≤ 100000000 := by have := HSZ.out; omega
    have hyl : ys.length ≤ 100000000 := by omega
    have HC0 := Lib.hid hcell0
    have HBP := Lib.hid hBp
    have HFL := Lib.hid hfl
    have HXS := Lib.hid hxs
    have HYB := Lib.hid hyb
    have hcell := keepA HB.out hcell0
    have hcell2 := fun o => cell?_alloc_old o hcell
    clear hrd hys hBp hfl hsm hxs hyb hxs' hcell0
    go_wp2_with (at_builtin; first | (refine wpList_append_bs rfl _ _ rfl wr.heap.size (.slice (some ⟨wr.heap.size, 0, none⟩) 0 0) [] rfl (own_new wr wr.heap.size [] (Nat.le_refl _) (by simp)) Ap ys.length cp ys rfl ((HBP.out.next HB.out).next ba_) (by simp <;> omega) (by simp) ?_; intro v5 w5 ho5 hg5 _; have HB5 := Lib.hid (show Below wr.heap.size wr w5 from ba_.grown hg5 (by simp) (fun k hk => by simp [Value.ownBlock] at hk; omega)); have HO5 := Lib.hid (show Own w5 wr.heap.size v5 ys from ho5); clear ho5 hg5) | (refine wpList_append_bs rfl _ _ rfl wr.heap.size v5 ys rfl (HO5.out.next ba_) (some ⟨w5.heap.size, 0, none⟩) 2 2 [170, 187] rfl (two_bs w5) (by omega) (by have := HB5.out.size; simp; omega) ?_; intro v6 w6 ho6 hg6 _; have HB6 := Lib.hid (show Below wr.heap.size wr w6 from (HB5.out.alloc HB5.out.size _).grown hg6 (by have := HB5.out.size; simp; omega) (fun k hk => (HO5.out.blk k hk).1)); obtain ⟨gF, cF, rfl, hF6⟩ := Full.of ho6; have HF6 := Lib.hid hF6; have hcell6 := keepA HB6.out hcell; have hcc : ys.length ≤ cF := (by have := hF6.cr.le; omega); have hcm : cF ≤ 9223372036854775807 := hF6.cr.max; clear ho6 hg6 hF6 hcell hcell2))
    have HB06 := Lib.hid (belowT HB.out HB6.out)
    have HT6 := Lib.hid (HR.out.below HB6.out)
    refine (tfeed_any HE.out.good HE.out.law HE.out.pow HE.out.wrd HE.out.ert g gd 40 xs v b HB06.out HT6.out.t HXS.out (some ⟨gF, 0, none⟩) ys.length cF ys (HF6.out.bs HYB.out) (by omega) (by omega) (by omega)).mono ?_
    rintro e w7 ⟨v1, b1, rfl, hF7⟩
    have hvn : v.ownBlock ≠ some gF := fun e => by have := HR.out.t.vlt gF e; have := HF6.out.ge; omega
    have HF7 := Lib.hid (HF6.out.blk (hF7.kept.2 gF HF6.out.lt (by
     have h1 := HF6.out.ge
     rintro (e | e | e)
     · have := HR.out.t.lt; omega
     · have := HR.out.t.gdlt; omega
     · exact hvn e.symm)))
    have HT7 := Lib.hid (HT6.out.fed hF7)
    have HB7 := Lib.hid hF7.below
    have HV1 := Lib.hid (show v1.ownBlock ≠ some gF from fun e => by
     rcases hF7.row with e1 | e1 | ⟨k', e1, hl⟩
     · exact hvn (e1 ▸ e)
     · rw [e1] at e; cases e
     · rw [e1] at e; injection e with e; have := HF6.out.lt; omega)
    have HV2 := Lib.hid (show v'.ownBlock ≠ some gF from fun e => by have := HR.out.u.vlt gF e; have := HF6.out.ge; omega)
    obtain ⟨st, hst⟩ : ∃ st, st = (⟨(tellX 40 xs ys).toArray⟩ : ByteArray) := ⟨_, rfl⟩
    rw [← hst]
    have HST := Lib.hid hst
    have q0 := HF7.out.c0
    have q1 := HF7.out.c1
    have hcell7 := keepA HB7.out HC0.out
    have hj0 : (0 : Int) ≤ (ys.length : Int) := by omega
    have hj1 : (ys.length : Int) < (ys.length : Int) + 2 := by omega
    have hj2 : (ys.length : Int) + 1 < (ys.length : Int) + 2 := by omega
    have hj3 : (0 : Int) ≤ (ys.length : Int) + 1 := by omega
    have hj4 : ((ys.length : Int) + 1).toNat = ys.length + 1 := by omega
    have hw1 : IntKind.i64.wrap ((ys.length : Int) + 1) = ys.length + 1 := by rw [IntKind.wrap_i64]; omega
    clear hF7 hst hvn hcell6
    have HQ1 := Lib.hid (HF7.out.bs HYB.out)
    have HQ2 := Lib.hid (HBP.out.next HB7.out)
    go_wp2_with fail
    refine start_ (n := 25) (S := fun w' => w'.cell? ⟨bp, op + k, none⟩ = some (.slice Ap ys.length cp) ∧ w'.cell? ⟨gF, ys.length, none⟩ = some (.int .u8 170) ∧ w'.cell? ⟨gF, ys.length + 1, none⟩ = some (.int .u8 187) ∧ Bs w' (some ⟨gF, 0, none⟩) ys.length cF ys ∧ Bs w' Ap ys.length cp ys) (ds := []) (bM 25 0) (by kernel_rfl) rfl rfl (⟨hcell7, q0, q1, HQ1.out.next (Below.refl _ _).drew, HQ2.out.next (Below.refl _ _).drew⟩) (fun hHeld => ?_)
    refine pu_ 0 58 ?_ (bM 25 1) rfl rfl (by kernel_rfl) (.inl ⟨by rfl, ?_⟩) ?_ ?_ ?_; rotate_left
    · intro w'; go_simp; with_reducible rfl
    rotate_left
    · simp only [pA_, i64_w]; rfl
    refine pu_ 1 59 ?_ (bM 25 3) rfl rfl (by kernel_rfl) (.inl ⟨by rfl, ?_⟩) ?_ ?_ ?_; rotate_left
    · intro w'; go_simp; with_reducible rfl
    rotate_left
    · simp only [pA_, i64_w]; rfl
    refine pu_ 2 60 ?_ (bM 25 7) rfl rfl (by kernel_rfl) (.inl ⟨by rfl, ?_⟩) ?_ ?_ ?_; rotate_left
    · intro w'; go_simp; with_reducible rfl
    rotate_left
    · simp only [pA_, i64_w]; rfl
    refine pu_ 4 62 ?_ (bM 25 23) rfl rfl (by kernel_rfl) (.inl ⟨by rfl, ?_⟩) ?_ ?_ ?_; rotate_left
    · intro w'; go_simp; with_reducible rfl
    rotate_left
    · simp only [pA_, i64_w]; rfl
    refine pu_ 5 63 ?_ (bM 25 55) rfl rfl (by kernel_rfl) (.inl ⟨by rfl, ?_⟩) ?_ ?_ ?_; rotate_left
    · intro w'; go_simp; with_reducible rfl
    rotate_left
    · simp only [pA_, i64_w]; rfl
    refine pu_ 6 64 ?_ (bM 25 119) rfl rfl (by kernel_rfl) (.inl ⟨by rfl, ?_⟩) ?_ ?_ ?_; rotate_left
    · intro w'; go_simp; with_reducible rfl
    rotate_left
    · simp only [pA_, i64_w]; rfl
    refine tk_ 3 61 ?_ (bM 25 127) rfl rfl (by kernel_rfl) (.inl ⟨by rfl, ?_⟩) hHeld ?_ ?_ ?_
    rotate_left
    · rintro w' ⟨s0, s1, s2, s3, s4⟩
      refine (conv_runB (by rfl) (by rfl) s3).trans ?_
      with_reducible rfl
    rotate_left
    · simp only [pA_, i64_w]
      rfl
    refine tk_ 7 65 ?_ (bM 25 255) rfl rfl (by kernel_rfl) (.inl ⟨by rfl, ?_⟩) hHeld ?_ ?_ ?_; rotate_left
    · rintro w' ⟨s0, s1, s2, s3, s4⟩; go_simp; with_reducible rfl
    rotate_left
    · simp only [pA_, i64_w]; rfl
    refine tk_ 8 66 ?_ (bM 25 511) rfl rfl (by kernel_rfl) (.inl ⟨by rfl, ?_⟩) hHeld ?_ ?_ ?_
    rotate_left
    · rintro w' ⟨s0, s1, s2, s3, s4⟩
      refine (conv_runB (by rfl) (by rfl) s4).trans ?_
      with_reducible rfl
    rotate_left
    · simp only [pA_, i64_w]
      rfl
    refine pu_ 9 67 ?_ (bM 25 1023) rfl rfl (by kernel_rfl) (.inl ⟨by rfl, ?_⟩) ?_ ?_ ?_; rotate_left
    · intro w'; go_simp; with_reducible rfl
    rotate_left
    · simp only [pA_, i64_w]; rfl
    refine pu_ 10 68 ?_ (bM 25 2047) rfl rfl (by kernel_rfl) (.inl ⟨by rfl, ?_⟩) ?_ ?_ ?_; rotate_left
    · intro w'; go_simp; with_reducible rfl
    rotate_left
    · simp only [pA_, i64_w]; rfl
    refine pu_ 11 69 ?_ (bM 25 4095) rfl rfl (by kernel_rfl) (.inl ⟨by rfl, ?_⟩) ?_ ?_ ?_; rotate_left
    · intro w'; go_simp; with_reducible rfl
    rotate_left
    · simp only [pA_, i64_w]; rfl
    refine pu_ 12 70 ?_ (bM 25 8191) rfl rfl (by kernel_rfl) (.inl ⟨by rfl, ?_⟩) ?_ ?_ ?_; rotate_left
    · intro w'; go_simp; with_reducible rfl
    rotate_left
    · simp only [pA_, i64_w]; rfl
    refine pu_ 13 71 ?_ (bM 25 16383) rfl rfl (by kernel_rfl) (.inl ⟨by rfl, ?_⟩) ?_ ?_ ?_; rotate_left
    · intro w'; go_simp; with_reducible rfl
    rotate_left
    · simp only [pA_, i64_w]; rfl
    refine tk_ 14 72 ?_ (bM 25 32767) rfl rfl (by kernel_rfl) (.inl ⟨by rfl, ?_⟩) hHeld ?_ ?_ ?_; rotate_left
    · rintro w' ⟨s0, s1, s2, s3, s4⟩; go_simp; with_reducible rfl
    rotate_left
    · simp only [pA_, i64_w]; rfl
    refine pu_ 15 73 ?_ (bM 25 65535) rfl rfl (by kernel_rfl) (.inl ⟨by rfl, ?_⟩) ?_ ?_ ?_; rotate_left
    · intro w'; go_simp; with_reducible rfl
    rotate_left
    · simp only [pA_, i64_w]; rfl
    refine pu_ 16 74 ?_ (bM 25 131071) rfl rfl (by kernel_rfl) (.inl ⟨by rfl, ?_⟩) ?_ ?_ ?_; rotate_left
    · intro w'; go_simp; with_reducible rfl
    rotate_left
    · simp only [pA_, i64_w]; rfl
    refine pu_ 17 75 ?_ (bM 25 262143) rfl rfl (by kernel_rfl) (.inl ⟨by rfl, ?_⟩) ?_ ?_ ?_; rotate_left
    · intro w'; go_simp; with_reducible rfl
    rotate_left
    · simp only [pA_, i64_w]; rfl
    refine pu_ 18 76 ?_ (bM 25 524287) rfl rfl (by kernel_rfl) (.inl ⟨by rfl, ?_⟩) ?_ ?_ ?_; rotate_left
    · intro w'; go_simp; with_reducible rfl
    rotate_left
    · simp only [pA_, i64_w]; rfl
    refine pu_ 19 77 ?_ (bM 25 1048575) rfl rfl (by kernel_rfl) (.inl ⟨by rfl, ?_⟩) ?_ ?_ ?_; rotate_left
    · intro w'; go_simp; with_reducible rfl
    rotate_left
    · simp only [pA_, i64_w]; rfl
    refine pu_ 20 78 ?_ (bM 25 2097151) rfl rfl (by kernel_rfl) (.inl ⟨by rfl, ?_⟩) ?_ ?_ ?_; rotate_left
    · intro w'; go_simp; with_reducible rfl
    rotate_left
    · simp only [pA_, i64_w]; rfl
    refine pu_ 21 79 ?_ (bM 25 4194303) rfl rfl (by kernel_rfl) (.inl ⟨by rfl, ?_⟩) ?_ ?_ ?_; rotate_left
    · intro w'; go_simp; with_reducible rfl
    rotate_left
    · simp only [pA_, i64_w]; rfl
    refine tk_ 22 80 ?_ (bM 25 8388607) rfl rfl (by kernel_rfl) (.inl ⟨by rfl, ?_⟩) hHeld ?_ ?_ ?_; rotate_left
    · rintro w' ⟨s0, s1, s2, s3, s4⟩; go_simp; with_reducible rfl
    rotate_left
    · simp only [pA_, i64_w]; rfl
    refine pu_ 23 81 ?_ (bM 25 16777215) rfl rfl (by kernel_rfl) (.inl ⟨by rfl, ?_⟩) ?_ ?_ ?_; rotate_left
    · intro w'; go_simp; with_reducible rfl
    rotate_left
    · simp only [pA_, i64_w]; rfl
    refine pu_ 24 82 ?_ (bM 25 33554431) rfl rfl (by kernel_rfl) (.inl ⟨by rfl, ?_⟩) ?_ ?_ ?_; rotate_left
    · intro w'; go_simp; with_reducible rfl
    rotate_left
    · simp only [pA_, i64_w]; rfl
    refine done_ (by kernel_rfl) ?_
    clear hHeld q0 q1 hcell7 HQ1 HQ2
    go_wp2_with fail
    obtain ⟨w8, hw8⟩ : ∃ w8, w8 = w7.drew := ⟨_, rfl⟩
    have hb8 : Below w7.heap.size w7 w8 := by rw [hw8]; exact (Below.refl _ _).drew
    have HT8 := Lib.hid (HT7.out.below hb8)
    have HF8 := Lib.hid (HF7.out.below hb8)
    have HB8 := Lib.hid (belowT HB7.out hb8)
    rw [← hw8]
    clear hw8 hb8 HT7 HF7 HB7 HT6 HF6 HB06 HB6 HB5 HO5 hw1 hj0 hj1 hj2 hj3 hj4
    go_loopw [85] (fun ii wi => ∃ (i : Nat) (f : Nat → Int), ii = .int .i64 i ∧ i ≤ ys.length + 2 ∧ Hid (CR wi gF 0 (ys.length + 2) cF f) ∧ Hid (Spr w8 wi gF 0)) (fun ii _ => ys.length + 2 - (intOf ii).toNat)
    case atStart => exact ⟨0, _, rfl, by omega, Lib.hid HF8.out.cr, Lib.hid (Spr.refl _ _ _)⟩
    case round =>
     obtain ⟨i, f, rfl, hi, HC, HS⟩ := hrel
     rename World => wi
     have hlF : gF < wi.heap.size := Nat.lt_of_lt_of_le HF8.out.lt HS.out.size
     by_cases hin : i < ys.length + 2
     · have hd2 : decide ((i : Int) < (ys.length : Int) + 2) = true := by simp; omega
       have hk0 : (0 : Int) ≤ (i : Int) := by omega
       have hk1 : (i : Int) < (ys.length : Int) + 2 := by omega
       have hci := HC.out.rd i hin
       have hfr := (HC.out.there i (by have := HC.out.le; omega)).2
       have hC2 := HC.out.set hlF hin 0
       rw [Nat.zero_add] at hci hfr hC2
       have HC2 := Lib.hid hC2
       clear hC2
       go_wp2_with fail
       go_roundw
       case rel => exact ⟨i + 1, _, by go_num, by omega, HC2, Lib.hid (HS.out.trans (Spr.set (Nat.zero_le _) _))⟩
       case measure => simp [intOf]; omega
     · obtain rfl : i = ys.length + 2 := by omega
       have hd2 : decide ((ys.length : Int) + 2 < (ys.length : Int) + 2) = false := by simp
       have HTi := Lib.hid (HT8.out.spr HS.out HF8.out.ty HV1.out HV2.out)
       have HBi := Lib.hid (HB8.out.trans (HS.out.below (Nat.le_trans HB.out.size HF8.out.ge) HB8.out.size))
       have hcell := keepA HBi.out HC0.out
       have hcell2 := fun o => cell?_alloc_old o hcell
       clear hlF HC HF8
       go_wp2_with (at_builtin; refine wpList_append_bs rfl _ _ rfl wi.heap.size (.slice (some ⟨wi.heap.size, 0, none⟩) 0 0) [] rfl (own_new wi wi.heap.size [] (Nat.le_refl _) (by simp)) Ap ys.length cp ys rfl ((HBP.out.next HBi.out).next ba_) (by simp <;> omega) (by simp) ?_; intro va wa hoa hga _; have hba : Below wi.heap.size wi wa := ba_.grown hga (by simp) (fun k hk => by simp [Value.ownBlock] at hk; omega); have hoa' : Own wa wi.heap.size va ys := hoa; obtain ⟨Aa, ca, rfl, hqa⟩ := Own.bs hoa' HYB.out; have HQa := Lib.hid hqa; have HTa := Lib.hid (HTi.out.below hba); have HBa := Lib.hid (belowT HBi.out hba); clear hoa hoa' hga hqa hba)
       refine (tfeed_any HE.out.good HE.out.law HE.out.pow HE.out.wrd HE.out.ert g' gd' 40 xs v' b' HBa.out HTa.out.u HXS.out Aa ys.length ca ys HQa.out (by omega) (by omega) (by omega)).mono ?_
       rintro e w9 ⟨v2, b2, rfl, hF9⟩
       have HT9 := Lib.hid ((HTa.out.swap.fed hF9).swap)
       have HB9 := Lib.hid hF9.below
       rw [← HST.out]
       have hse : (st.toList != st.toList) = false := by simp
       clear hF9
       go_wp2_with fail
       go_roundw
       case rel => exact ⟨k + 1, v1, v2, b1, b2, by omega, by go_num, Lib.hid (by rw [HFL.out]; exact HT9.out), HB9⟩
       case measure => simp [intOf]; omega
  · obtain rfl : k = ps.length := by omega
    have hd : decide ((ps.length : Int) < (ps.length : Int)) = false := by simp
    obtain ⟨e1, hv1, hc1⟩ := terr_ev' HR.out.t
    obtain ⟨e2, hv2, hc2⟩ := terr_ev' HR.out.u
    have C1 := Lib.hid hc1
    have C2 := Lib.hid hc2
    have D1 := Lib.hid (code_any (HE.out.below HB.out).good hv1)
    have D2 := Lib.hid (code_any (HE.out.below HB.out).good hv2)
    clear hc1 hc2 hv1 hv2
    go_wp2_with fail
    refine C1.out.mono ?_
    rintro e w7 ⟨rfl, rfl⟩
    go_wp2_with fail
    refine D1.out.mono ?_
    rintro e w7 ⟨rfl, rfl⟩
    go_wp2_with fail
    refine C2.out.mono ?_
    rintro e w7 ⟨rfl, rfl⟩
    go_wp2_with fail
    refine D2.out.mono ?_
    rintro e w7 ⟨rfl, rfl⟩
    go_wp2_with fail
    go_ret
    exact ⟨rfl, HB.out⟩
end Go.Proofs.YtidmgckmphcegaaGreatDoor
