/-
  FeedBack, walked.
-/
import Derived.Test.YtfddhipdedcacaaDoorMD
import Derived.Test.YtfddhipdedcacaaDoorME
import Derived.Test.YtfddhipdedcacaaDoorMF
namespace Go.Proofs.YtfddhipdedcacaaDoor
open Go.RowKit Go.Proofs.YtfddhipdedcacaaDoorW.PrintWords Go.Proofs.YtfddhipdedcacaaDoorW.PrintLast Go.Proofs.YtfddhipdedcacaaDoorW.PrintMore Go.Proofs.YtfddhipdedcacaaDoor.PFeedPieces
set_option linter.unusedVariables false
set_option linter.unusedSimpArgs false
theorem check_fine {sa : Nat → Addr} {w : World} (hG : Good w sa) (hL : Lawful w) {ver ty fl st ln most : Int} (hI : HdIn ver ty fl st ln) (h : chk ver ty fl st ln most = 0) :
    Calls Tryd.prog 18 #[hdr ver ty fl st ln, .int .i64 most] w fun e w' => e = .returned .nilIface ∧ Below w.heap.size w w' := by
  have hc := check_any hG hL ver ty fl st ln most hI.t0 hI.t1 hI.l0 hI.l1
  rw [h] at hc
  exact hc
/-- May the frame be? -/
def okB (most : Int) (p : Fr) : Bool := decide ((p.f1.length : Int) = szF p.f0.f1 p.f0.f4 ∧ chk p.f0.f0 p.f0.f1 p.f0.f2 p.f0.f3 p.f0.f4 most = 0)
def goods (most : Int) (fs : List Fr) : List Fr := fs.filter (okB most)
theorem goods_snoc {most : Int} {fs : List Fr} {j : Nat} (h : j < fs.length) : goods most (fs.take (j + 1)) = goods most (fs.take j) ++ if okB most fs[j] then [fs[j]] else [] := by
  unfold goods
  rw [List.take_succ_eq_append_getElem h, List.filter_append]
  congr 1
  simp [List.filter_cons]
theorem goods_len (most : Int) (fs : List Fr) : (goods most fs).length ≤ fs.length := List.length_filter_le _ _
theorem goods_flat (most : Int) : ∀ fs : List Fr, (flat (goods most fs)).length ≤ 12 * fs.length + (fs.map fun q => q.f1.length).sum
  | [] => by simp [goods, flat]
  | p :: fs => by
    have ih := goods_flat most fs
    unfold goods at ih ⊢
    rw [List.filter_cons]
    split
    · rw [flat_cons, List.length_append, encF_len]; simp only [List.length_cons, List.map_cons, List.sum_cons]; omega
    · simp only [List.length_cons, List.map_cons, List.sum_cons]; omega
theorem goods_take (most : Int) (fs : List Fr) (j : Nat) : (flat (goods most (fs.take j))).length ≤ 12 * fs.length + (fs.map fun q => q.f1.length).sum := by
  have h := goods_flat most (fs.take j)
  have h2 : (fs.map fun q => q.f1.length).sum = ((fs.take j).map fun q => q.f1.length).sum + ((fs.drop j).map fun q => q.f1.length).sum := by
    rw [← List.sum_append, ← List.map_append, List.take_append_drop]
  have h3 : (fs.take j).length ≤ fs.length := by simp; omega
  omega
theorem goods_ok {most : Int} {fs : List Fr} (h : ∀ p ∈ fs, FrIn p) : ∀ p ∈ goods most fs, FOk most p := fun p hp => by
  obtain ⟨h1, h2⟩ := List.mem_filter.1 hp
  have h3 : (p.f1.length : Int) = szF p.f0.f1 p.f0.f4 ∧ chk p.f0.f0 p.f0.f1 p.f0.f2 p.f0.f3 p.f0.f4 most = 0 := of_decide_eq_true h2
  exact ⟨(h p h1).hd, h3.1, h3.2, (h p h1).byt⟩
theorem back_size {fs : List Fr} {n B : Nat} (h : (fs.map fun q => q.f1.length).sum + n ≤ B) (hB : B ≤ 1048576) : 12 * n + (fs.map fun q => q.f1.length).sum ≤ 100000000 := by omega
/-- What stays through the law. -/
structure FBack (sa : Nat → Addr) (C : Option Addr) (m d : Nat) (zs : List Int) (w : World) : Prop where
  is : Is w C m d zs
  good : Good w sa
  law : Lawful w
  ert : ErT w
theorem FBack.next {sa : Nat → Addr} {C : Option Addr} {m d : Nat} {zs : List Int} {w w' : World} (h : FBack sa C m d zs w) (hb : Below w.heap.size w w') : FBack sa C m d zs w' :=
  ⟨h.is.next hb, h.good.below hb, h.law.below hb, keepA hb h.ert⟩
set_option maxRecDepth 100000 in
set_option maxHeartbeats 4000000 in
theorem feedBack_walk {sa : Nat → Addr} {w : World} (hG : Good w sa) (hL : Lawful w) (hT : ErT w) (most : Int) (A : Option Addr) (n c : Nat) (fs : List Fr) (hA : kFr.C w A n fs) (hI : ∀ p ∈ fs, FrIn p) (C : Option Addr) (m d : Nat) (zs : List Int) (hZ : Is w C m d zs) (hs : 12 * n + (fs.map fun q => q.f1.length).sum ≤ 100000000) (hm : m ≤ 1000000000) :
    Calls Tryd.prog 13 #[.int .i64 most, .slice A n c, .slice C m d] w fun e w' => e = .returned (.bool true) ∧ Below w.heap.size w w' := by
  have hS : FBack sa C m d zs w := ⟨hZ, hG, hL, hT⟩
  have HU := Lib.hid (show Up w (FBack sa C m d zs) from fun W hb => hS.next hb)
  have hf := fixed_any hG hL hT
  have HI := Lib.hid hI
  obtain rfl : fs.length = n := hA.1
  have HF0 := Lib.hid (Kd.C_F heap_fr hA)
  have HS := Lib.hid hs
  have hfn : fs.length ≤ 100000000 := by omega
  clear hS hA hI hZ hG hL hT hs
  go_enter Tryd.func13, Tryd.ntmps13
  go_wp2_with fail
  refine hf.mono ?_
  rintro e w1 ⟨rfl, hb1⟩
  have HB1 := Lib.hid hb1
  have HF := Lib.hid (Kd.F_mono (Kd.F_below HF0.out hb1) fun k hk => (show k < w1.heap.size from Nat.lt_of_lt_of_le hk hb1.size))
  clear hb1 hf HF0
  go_wp2_with fail
  go_loopw [7, 8, 20] (fun bv wv jj wr => ∃ j : Nat, jj = .int .i64 j ∧ j ≤ fs.length ∧ Hid (Own wr w1.heap.size bv (flat (goods most (fs.take j)))) ∧ Hid (Kd.N kFr 45 wr w1.heap.size (fun k => True ∧ some k ≠ bv.ownBlock) wv (goods most (fs.take j))) ∧ Hid (Below w1.heap.size w1 wr)) (fun _ _ jj _ => fs.length - (intOf jj).toNat)
  case atStart => exact ⟨0, rfl, by omega, Lib.hid ⟨rfl, .inl ⟨rfl, rfl⟩⟩, Lib.hid (Kd.N_nil _ _ _ _ _), Lib.hid (Below.refl _ _)⟩
  case round =>
    obtain ⟨j, rfl, hj, HO, HN, HB⟩ := hrel
    by_cases hlt : j < fs.length
    · have hd1 : decide ((j : Int) < fs.length) = true := by simp; omega
      have hk0 : (0 : Int) ≤ (j : Int) := by omega
      have hk1 : (j : Int) < (fs.length : Int) := by omega
      have HFr := Lib.hid (Kd.F_below HF.out HB.out)
      obtain ⟨p, hp⟩ : ∃ p, p = rd_T45 fs j := ⟨_, rfl⟩
      obtain ⟨a, A5, c5, rfl, a0, a1, a2, a3, a4, a5, al, aF⟩ := at_F HFr.out j hk0 hk1
      rw [← hp] at a0 a1 a2 a3 a4 a5 al aF
      simp only [Int.toNat_natCast] at a0 a1 a2 a3 a4 a5
      have hpj : p = fs[j] := by
        rw [hp]; unfold rd_T45
        rw [Int.toNat_natCast, List.getD_eq_getElem?_getD, List.getElem?_eq_getElem hlt]
        rfl
      have hpi := HI.out p (by rw [hpj]; exact List.getElem_mem hlt)
      have hgs := goods_snoc (most := most) hlt
      rw [← hpj] at hgs
      obtain ⟨hd, hby⟩ := hpi
      have HGS := Lib.hid hgs
      have HD := Lib.hid hd
      have HBY := Lib.hid hby
      have HAF := Lib.hid aF
      clear hp hpj hgs hd hby aF
      go_wp2_with fail
      obtain ⟨wx, hwx⟩ : ∃ wx, wx = wr.alloc (.cells (frc p A5 c5) 45) := ⟨_, rfl⟩
      have hbx : Below wr.heap.size wr wx := by rw [hwx]; exact (Below.refl _ _).alloc (Nat.le_refl _) _
      have hh : wx.heap[wr.heap.size]? = some (.cells (frc p A5 c5) 45 (0, 0)) := by rw [hwx]; exact alloc_blk _ _
      rw [← hwx]
      have HBX := Lib.hid hbx
      have HH := Lib.hid hh
      clear hbx hh hwx a0 a1 a2 a3 a4 a5
      by_cases hsz : (p.f1.length : Int) = szF p.f0.f1 p.f0.f4
      · refine (fbytesC_yes p.f0.f0 p.f0.f1 p.f0.f2 p.f0.f3 p.f0.f4 A5 p.f1.length c5 p.f1 wx (C_below (Kd.F_now HAF.out) HBX.out) HD.out.f0 HD.out.f1 HD.out.s0 HD.out.s1 HD.out.l0 HD.out.l1 hsz).mono ?_
        rintro e w4 ⟨v4, rfl, ho4, hb4⟩
        have ho4' : Own w4 wx.heap.size v4 (encF p) := ho4
        obtain ⟨A4, c4, rfl, hq4⟩ := Own.bs ho4' (fun x hx => (List.mem_append.1 hx).elim (enc_byt' HD.out x) (HBY.out x))
        have HB4 := Lib.hid (belowT HBX.out hb4)
        have hh4 := keepB hb4 HH.out
        have HQ4 := Lib.hid hq4
        have HH4 := Lib.hid hh4
        have e0 : w4.cell? ⟨wr.heap.size, 0, none⟩ = some (.int .u8 p.f0.f0) := cell_blk hh4 rfl
        have e1 : w4.cell? ⟨wr.heap.size, 1, none⟩ = some (.int .u8 p.f0.f1) := cell_blk hh4 rfl
        have e2 : w4.cell? ⟨wr.heap.size, 2, none⟩ = some (.int .u16 p.f0.f2) := cell_blk hh4 rfl
        have e3 : w4.cell? ⟨wr.heap.size, 3, none⟩ = some (.int .u32 p.f0.f3) := cell_blk hh4 rfl
        have e4 : w4.cell? ⟨wr.heap.size, 4, none⟩ = some (.int .u32 p.f0.f4) := cell_blk hh4 rfl
        have HUr := Lib.hid (HU.out.next (belowT HB1.out (belowT HB.out HB4.out)))
        have HSZ := Lib.hid hsz
        clear ho4 ho4' hb4 hq4 hh4 hsz
        go_wp2_with fail
        by_cases hck : chk p.f0.f0 p.f0.f1 p.f0.f2 p.f0.f3 p.f0.f4 most = 0
        · refine (check_fine HUr.out.now.good HUr.out.now.law HD.out hck).mono ?_
          rintro e w5 ⟨rfl, hb5⟩
          have HB5 := Lib.hid (belowT HB4.out hb5)
          have HH5 := Lib.hid (keepB hb5 HH4.out)
          have HQ5 := Lib.hid (HQ4.out.next hb5)
          have HO5 := Lib.hid (HO.out.next HB5.out)
          have HN5 := Lib.hid (Kd.N_below HN.out HB5.out)
          have HBw5 := Lib.hid (belowT HB.out HB5.out)
          have hg : goods most (fs.take (j + 1)) = goods most (fs.take j) ++ [p] := by
            rw [HGS.out]; unfold okB; simp [hck, HSZ.out]
          have HG := Lib.hid hg
          have HLN := Lib.hid (goods_take most fs j)
          have HLP := Lib.hid (show p.f1.length ≤ 100000000 by
            have h1 := goods_take most fs (j + 1)
            rw [hg, flat_app, List.length_append, flat_one, encF_len] at h1
            have := HS.out
            omega)
          have HLG := Lib.hid (show (goods most (fs.take j)).length ≤ 100000000 by
            have h1 := goods_len most (fs.take j)
            rw [List.length_take] at h1
            omega)
          clear hb5 hg hck e0 e1 e2 e3 e4
          go_wp2_with (at_builtin; first | (refine append_at (w0 := w1) rfl _ _ rfl _ (flat (goods most (fs.take j))) rfl HO5.out A4 (encF p).length c4 (encF p) rfl HQ5.out (by have h1 := HLN.out; have h2 := HS.out; have h3 := HLP.out; rw [encF_len]; omega) HBw5.out ?_; intro v6 w6 ho6 hb6 hg6 hat6; have HO6 := Lib.hid ho6; have HB6 := Lib.hid hb6; have HN6 := Lib.hid (Kd.N_after HN5.out hg6 hat6); have HH6 := Lib.hid (grown_blk hg6 (fun e => by have h1 := (HO.out.blk _ e).2; omega) HH5.out); have HF6 := Lib.hid (Kd.F_grown (Kd.F_below HAF.out HB5.out) hg6 (fun k hk e => by have h1 := (HO5.out.blk k e.symm).1; omega)); have HZ6 := Lib.hid hg6.size; clear ho6 hb6 hg6 hat6; have e0 : w6.cell? ⟨wr.heap.size, 0, none⟩ = some (.int .u8 p.f0.f0) := cell_blk HH6.out rfl; have e1 : w6.cell? ⟨wr.heap.size, 1, none⟩ = some (.int .u8 p.f0.f1) := cell_blk HH6.out rfl; have e2 : w6.cell? ⟨wr.heap.size, 2, none⟩ = some (.int .u16 p.f0.f2) := cell_blk HH6.out rfl; have e3 : w6.cell? ⟨wr.heap.size, 3, none⟩ = some (.int .u32 p.f0.f3) := cell_blk HH6.out rfl; have e4 : w6.cell? ⟨wr.heap.size, 4, none⟩ = some (.int .u32 p.f0.f4) := cell_blk HH6.out rfl; have e5 : w6.cell? ⟨wr.heap.size, 5, none⟩ = some (.slice A5 p.f1.length c5) := cell_blk HH6.out rfl) | go_loud (refine fr_append (w0 := w1) (W := w6) rfl _ _ rfl u8 (goods most (fs.take j)) p A5 c5 (fun k => True ∧ some k ≠ v6.ownBlock) (fun k => k < w1.heap.size) al HF6.out (fun k hk => ⟨⟨trivial, fun e => by have h1 := (HO6.out.blk k e.symm).1; omega⟩, fun e => by have h1 := Kd.N_base HN6.out k e.symm; omega⟩) (fun k hk => ⟨trivial, fun e => by have h1 := (HO6.out.blk k e.symm).2; omega⟩) rfl rfl HN6.out HB6.out (by have := HLG.out; omega) ?_; intro v7 w7 hn7 hb7 hg7; have HN7 := Lib.hid hn7; have HB7 := Lib.hid hb7; have HO7 := Lib.hid (HO6.out.keep (w1 := w7) fun k hk => hg7.block k (HO6.out.blk k hk).2 (fun e => (HN6.out.1 k e.symm).2 hk.symm)); clear hn7 hb7 hg7))
          go_roundw
          case rel => exact ⟨j + 1, by go_num, by omega, by rw [HG.out, flat_app, flat_one]; exact HO7, by rw [HG.out]; exact HN7, HB7⟩
          case measure => simp [intOf]; omega
        · refine (check_any HUr.out.now.good HUr.out.now.law p.f0.f0 p.f0.f1 p.f0.f2 p.f0.f3 p.f0.f4 most HD.out.t0 HD.out.t1 HD.out.l0 HD.out.l1).mono ?_
          rintro e w5 ⟨rfl, hb5⟩
          have hev : errv sa (chk p.f0.f0 p.f0.f1 p.f0.f2 p.f0.f3 p.f0.f4 most) = sv (sa (chk p.f0.f0 p.f0.f1 p.f0.f2 p.f0.f3 p.f0.f4 most)) := if_neg hck
          rw [hev]
          have HB5 := Lib.hid (belowT HB4.out hb5)
          have hg : goods most (fs.take (j + 1)) = goods most (fs.take j) := by
            rw [HGS.out]; unfold okB; simp [hck]
          have HG := Lib.hid hg
          clear hb5 hev hg hck e0 e1 e2 e3 e4
          go_wp2_with fail
          go_roundw
          case rel => exact ⟨j + 1, by go_num, by omega, by rw [HG.out]; exact Lib.hid (HO.out.next HB5.out), by rw [HG.out]; exact Lib.hid (Kd.N_below HN.out HB5.out), Lib.hid (belowT HB.out HB5.out)⟩
          case measure => simp [intOf]; omega
      · refine (fbytesC_no p.f0.f0 p.f0.f1 p.f0.f2 p.f0.f3 p.f0.f4 A5 p.f1.length c5 wx (HU.out.at_ (belowT HB1.out (belowT HB.out HBX.out))).good HD.out.f0 HD.out.f1 HD.out.s0 HD.out.s1 HD.out.l0 HD.out.l1 hsz).mono ?_
        rintro e w4 ⟨rfl, hb4⟩
        have HB4 := Lib.hid (belowT HBX.out hb4)
        have hg : goods most (fs.take (j + 1)) = goods most (fs.take j) := by
          rw [HGS.out]; unfold okB; simp [hsz]
        have HG := Lib.hid hg
        clear hb4 hsz hg
        go_wp2_with fail
        go_roundw
        case rel => exact ⟨j + 1, by go_num, by omega, by rw [HG.out]; exact Lib.hid (HO.out.next HB4.out), by rw [HG.out]; exact Lib.hid (Kd.N_below HN.out HB4.out), Lib.hid (belowT HB.out HB4.out)⟩
        case measure => simp [intOf]; omega
    · obtain rfl : j = fs.length := by omega
      have hd1 : decide ((fs.length : Int) < fs.length) = false := by simp
      have ht : fs.take fs.length = fs := List.take_length
      rw [ht] at HO HN
      have hok := goods_ok (most := most) HI.out
      have hcut := cut_flat_all (goods most fs) hok
      have hbyt := flat_byt hok
      have hlen := goods_flat most fs
      obtain ⟨gs, hgs⟩ : ∃ gs, gs = goods most fs := ⟨_, rfl⟩
      rw [← hgs] at HO HN hok hcut hbyt hlen
      obtain ⟨xs, hxs⟩ : ∃ xs, xs = flat gs := ⟨_, rfl⟩
      rw [← hxs] at HO hcut hbyt hlen
      obtain ⟨Ab, cb, rfl, hqb⟩ := Own.bs HO.out hbyt
      obtain ⟨Aw, cw, rfl, _⟩ := Kd.N_reads HN.out
      have hxl : xs.length ≤ 1000000000 := by have := HS.out; omega
      have HQ := Lib.hid hqb
      have HBr := Lib.hid (belowT HB1.out HB.out)
      have HX := Lib.hid hbyt
      have h1 : framesX most xs = gs := by unfold framesX; rw [hcut]
      have h2 : codeX most xs = 0 := by unfold codeX; rw [hcut]
      have h3 : restX most xs = [] := by unfold restX; rw [hcut]
      have h4 : wantX most xs = 12 := by unfold wantX; rw [h3, if_neg (by simp [h2]), if_pos (by simp)]; simp
      have h5 : ∀ b, errX most xs b = .nilIface := fun b => by unfold errX; rw [if_pos h2]
      have H1 := Lib.hid h1
      have H2 := Lib.hid h2
      have H3 := Lib.hid h3
      have H4 := Lib.hid h4
      have H5 := Lib.hid h5
      have HU2 := Lib.hid (HU.out.next HBr.out)
      have HGL := Lib.hid (show gs.length ≤ 9223372036854775807 by
        have := goods_len most fs
        rw [← hgs] at this
        omega)
      clear ht hok hcut hbyt hlen hgs hxs hqb h1 h2 h3 h4 h5 hlt HI HS
      by_cases hmm : most < 1 ∨ 65536 < most
      · go_wp2_with fail
        refine (gives_no HU2.out.now.good most hmm _ _).mono ?_
        rintro e w2 ⟨rfl, hb2⟩
        have HB2 := Lib.hid (belowT HBr.out hb2)
        clear hb2
        rcases hmm with hmm | hmm
        · have h1 : decide (most < 1) = true := by simp [hmm]
          go_wp2_with fail
          go_ret
          exact ⟨rfl, HB2.out⟩
        · have h1 : decide (most < 1) = false := by simp; omega
          have h2 : decide (65536 < most) = true := by simp [hmm]
          go_wp2_with fail
          go_ret
          exact ⟨rfl, HB2.out⟩
      · have m1 : 1 ≤ most := by omega
        have m2 : most ≤ 65536 := by omega
        go_wp2_with fail
        refine (gives_any HU2.out.now.good HU2.out.now.law most Ab xs.length cb xs HQ.out hxl C m d zs HU2.out.now.is hm m1 m2).mono ?_
        rintro e w2 ⟨f1, v1, b1, rfl, hg1⟩
        obtain ⟨A1, c1, rfl⟩ := hg1.form
        have HB2 := Lib.hid hg1.below
        have hF1 := hg1.F (Below.refl _ _)
        rw [H1.out] at hF1
        have HF1 := Lib.hid hF1
        have HF2 := Lib.hid (Kd.F_mono (Kd.F_bound (Kd.F_below (Kd.N_F HN.out) hg1.below)) fun k hk => hk.2)
        have HD := Lib.hid hg1.dec
        rw [H5.out, H1.out]
        clear hg1 hF1
        go_wp2_with fail
        refine (sameFrames_any rfl HF1.out HF2.out HGL.out).mono ?_
        rintro e w3 ⟨rfl, hb3⟩
        have HB3 := Lib.hid (belowT HB2.out hb3)
        have HD3 := Lib.hid (HD.out.below hb3)
        clear hb3
        go_wp2_with fail
        have hh := held_dec HD3.out HX.out
        rw [H3.out] at hh
        refine hh.mono ?_
        rintro e w3 ⟨rfl, rfl⟩
        clear hh
        go_wp2_with fail
        have hh := wants_dec (HU2.out.at_ HB3.out).good HD3.out HX.out (by omega)
        rw [H4.out] at hh
        refine hh.mono ?_
        rintro e w4 ⟨rfl, hb4⟩
        have HB4 := Lib.hid (belowT HB3.out hb4)
        have HD4 := Lib.hid (HD3.out.below hb4)
        clear hh hb4
        go_wp2_with fail
        have hh := err_dec HD4.out
        rw [H5.out] at hh
        refine hh.mono ?_
        rintro e w4 ⟨rfl, rfl⟩
        clear hh
        go_wp2_with fail
        go_ret
        exact ⟨rfl, belowT HBr.out HB4.out⟩
end Go.Proofs.YtfddhipdedcacaaDoor
