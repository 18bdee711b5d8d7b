/-
  FeedMemory, walked.
-/
import Derived.Test.YtfddhipdedcacaaDoorMI
namespace Go.Proofs.YtfddhipdedcacaaDoor
open Go.RowKit Go.Proofs.YtfddhipdedcacaaDoorW.PrintWords Go.Proofs.YtfddhipdedcacaaDoorW.PrintLast Go.Proofs.YtfddhipdedcacaaDoorW.PrintMore Go.Proofs.YtfddhipdedcacaaDoor.PFeedPieces
set_option linter.unusedVariables false
set_option linter.unusedSimpArgs false
/-- No block of these lists. -/
abbrev LX (kv wv lv : Value) (Q : List (Fr × Value)) (gs : List Value) (k : Nat) : Prop := some k ≠ kv.ownBlock ∧ some k ≠ wv.ownBlock ∧ some k ≠ lv.ownBlock ∧ (∀ q ∈ Q, some k ≠ q.2.ownBlock) ∧ ∀ x ∈ gs, some k ≠ x.ownBlock
/-- Blocks that the decoders don't use. -/
abbrev Pm (g gm : Nat) (v : Value) (k : Nat) : Prop := k ≠ g ∧ some k ≠ v.ownBlock ∧ k ≠ gm
theorem make_cap (n : Nat) (hn : n ≤ 1000000000) (w : World) : (Instr.makeSlice 38 (.int .i64 0) (.int .i64 ((n : Int) + 3))).run Tryd.prog w = .ok (.slice (some ⟨w.heap.size, 0, none⟩) 0 (n + 3)) (w.alloc (.cells (madeCells #[.int .u8 0] (n + 3)) 5)) := by
  obtain ⟨i0, hi, hz0, hz1, hz2⟩ := info_parts u8_info
  have h := run_make (P := Tryd.prog) w 38 5 i0 (.int .u8 0) Tryd.underlying38 hi hz0 .i64 .i64 0 ((n : Int) + 3) (by omega) (by omega) (by rw [hz2]; omega) (by omega)
  have e : ((n : Int) + 3).toNat = n + 3 := by omega
  rw [e, hz1, Nat.mul_one] at h
  exact h
theorem own_made (w : World) (base n : Nat) (hb : base ≤ w.heap.size) (hn : n ≤ 1000000000) : Own (w.alloc (.cells (madeCells #[.int .u8 0] (n + 3)) 5)) base (.slice (some ⟨w.heap.size, 0, none⟩) 0 (n + 3)) [] :=
  World.ownsRow_made w _ (n + 3) hb (by unfold maxLen; omega) (size_madeCells _ _ |>.trans (by simp))
theorem lists_info : (Tryd.prog.info? 56).map (fun i => (i.zero, i.size, i.bytes)) = some (some (.slice none 0 0), 1, 24) := by kernel_rfl
theorem three9 (w : World) : Bs (w.alloc (.cells #[.int .u8 91, .int .u8 92, .int .u8 93] 5)) (some ⟨w.heap.size, 0, none⟩) 3 3 [91, 92, 93] :=
  own_bs (own_new w w.heap.size [91, 92, 93] (Nat.le_refl _) (by simp)) (by simp)
theorem CR.bs' {W : World} {b n c : Nat} {xs : List Int} (h : CR W b 0 n c (fun j => xs.getD j 0)) (hl : xs.length = n) (hx : ∀ x ∈ xs, 0 ≤ x ∧ x ≤ 255) : Bs W (some ⟨b, 0, none⟩) n c xs :=
  ⟨hl, h.le, h.max, hx, (fun e => by cases e), fun _ => ⟨b, 0, rfl, fun j hj => h.rd j hj⟩⟩
theorem bytes_info : (Tryd.prog.info? 38).map (fun i => (i.zero, i.size, i.bytes)) = some (some (.slice none 0 0), 1, 24) := by kernel_rfl
def pf (k : Nat) (_ : Nat) : Int := (k : Int) % 256
def qg (dn : Nat → Nat) (t j : Nat) : Int := if j < dn t then (t : Int) % 256 else ((t : Int) + 1) % 256
set_option maxRecDepth 100000 in
set_option maxHeartbeats 4000000 in
theorem feedMemory_walk {sa : Nat → Addr} {w : World} (hG : Good w sa) (hL : Lawful w) (hT : ErT w) (most : Int) (A : Option Addr) (n c : Nat) (ps : List (List Int)) (hP : Pcs w A n c ps) (hs : (ps.map List.length).sum + n ≤ 100000000) :
    Calls Tryd.prog 8 #[.int .i64 most, .slice A n c] w fun e w' => e = .returned (.bool true) ∧ Below w.heap.size w w' := by
  have hS : FAns sa A n c ps w := ⟨hP, hG, hL, hT⟩
  have HU := Lib.hid (show Up w (FAns sa A n c ps) from fun W hb => hS.next hb)
  have hf := fixed_any hG hL hT
  obtain rfl := hP.len
  have hcap := hP.cap
  have HSZ := Lib.hid hs
  have hpn : ps.length ≤ 100000000 := by omega
  clear hS hP hG hL hT hs
  go_enter Tryd.func8, Tryd.ntmps8
  go_wp2_with fail
  refine hf.mono ?_
  rintro e w1 ⟨rfl, hb1⟩
  have HB1 := Lib.hid hb1
  clear hb1 hf
  by_cases hmm : most < 1 ∨ 65536 < most
  · go_wp2_with fail
    refine (new_no (HU.out.at_ HB1.out).good most hmm).mono ?_
    rintro e w2 ⟨rfl, hd2⟩
    have HB2 := Lib.hid (hd2.below w1.heap.size)
    clear hd2
    go_wp2_with fail
    refine (rnew_no most _ hmm).mono ?_
    rintro e w3 ⟨rfl, hb3⟩
    have HB3 := Lib.hid (belowT HB2.out hb3)
    clear hb3
    have HB4 := Lib.hid (HB3.out.alloc HB3.out.size (.cells #[.int .i64 0, .slice none 0 0] 53))
    by_cases h1 : most < 1
    · have hd1 : decide (most < 1) = true := by simp [h1]
      go_wp2_with fail
      go_ret
      exact ⟨rfl, belowT HB1.out HB4.out⟩
    · have hd1 : decide (most < 1) = false := by simp [h1]
      have hd2 : decide (65536 < most) = true := by simp; omega
      go_wp2_with fail
      go_ret
      exact ⟨rfl, belowT HB1.out HB4.out⟩
  · have m1 : 1 ≤ most := by omega
    have m2 : most ≤ 65536 := by omega
    go_wp2_with fail
    refine (new_dec sa (w0 := w1) most m1 m2).mono ?_
    rintro e w2 ⟨rfl, hd2, hb2⟩
    have HD2 := Lib.hid hd2
    have HB2 := Lib.hid hb2
    clear hd2 hb2
    have g0 : w1.heap.size < w2.heap.size := HD2.out.glt
    go_wp2_with fail
    refine (rnew_yes most _ m1 m2).mono ?_
    rintro e w3 ⟨rfl, hb3⟩
    have HB3 := Lib.hid (belowT HB2.out hb3)
    have HD3 := Lib.hid (HD2.out.below hb3)
    clear hb3 HD2
    go_upto_region 5 with fail
    have HS0 := Lib.hid (FStep.start (ps := ps) HB3.out HD3.out)
    have hz3 : w1.heap.size ≤ w3.heap.size := HB3.out.size
    have hgz : w1.heap.size < w3.heap.size := HD3.out.glt
    clear HB3 HD3 HB2
    go_wp2_with fail
    have HM0 := Lib.hid (MRow.start (w3.alloc (.cells #[.int .i64 most, .slice none 0 0] 53)) w1.heap.size (Pm w1.heap.size w3.heap.size (.slice none 0 0)))
    go_loopw [9, 10, 11, 62] (fun kv wv lv jj wr => ∃ (j : Nat) (zs : List Int) (v : Value) (b : Nat) (M : Option Addr) (nm cm : Nat) (Q : List (Fr × Value)) (gs : List Value), jj = .int .i64 j ∧ j ≤ ps.length ∧ Hid (FStep sa w1 wr w1.heap.size w3.heap.size most ps j zs v b M nm cm) ∧ Hid (MRow wr w1.heap.size (Pm w1.heap.size w3.heap.size v) kv wv lv Q Q (framesX most zs) gs gs) ∧ Hid (Q.map Prod.fst = framesX most zs) ∧ gs.length = j ∧ Hid (FBs wr (fun k => Pm w1.heap.size w3.heap.size v k ∧ LX kv wv lv Q gs k) M nm cm zs)) (fun _ _ _ jj _ => ps.length - (intOf jj).toNat)
    case atStart => exact ⟨0, [], _, 0, none, 0, 0, [], [], rfl, by omega, HS0, by rw [show framesX most [] = [] from by unfold framesX; rw [cut_short (by simp)]]; exact HM0, Lib.hid (by rw [show framesX most [] = [] from by unfold framesX; rw [cut_short (by simp)]]; rfl), rfl, Lib.hid (HS0.out.fed.mono fun k hk => ⟨hk, by simp [Value.ownBlock], by simp [Value.ownBlock], by simp [Value.ownBlock], fun q hq => (by cases hq), fun x hx => (by cases hx)⟩)⟩
    case round =>
      obtain ⟨j, zs, v, b, M, nm, cm, Q, gs, rfl, hj, HS, HM, HQ, hgl, HX⟩ := hrel
      by_cases hlt : j < ps.length
      · have hd1 : decide ((j : Int) < ps.length) = true := by simp; omega
        have hk0 : (0 : Int) ≤ (j : Int) := by omega
        have hk1 : (j : Int) < (ps.length : Int) := by omega
        have HUr := Lib.hid (HU.out.next (belowT HB1.out HS.out.below))
        obtain ⟨bp, op, rfl, hrd⟩ := HU.out.now.pcs.rd (by omega)
        obtain ⟨Ap, cp, hcell, hBp⟩ := hrd j hlt
        obtain ⟨ys, hys⟩ : ∃ ys, ys = ps.getD j [] := ⟨_, rfl⟩
        rw [← hys] at hcell hBp
        replace hcell := keepA (belowT HB1.out HS.out.below) hcell
        have HY := Lib.hid hys
        have HBW := Lib.hid hBp
        have HBP := Lib.hid (hBp.next (belowT HB1.out HS.out.below))
        have HYX := Lib.hid hBp.byt
        have hnm : zs.length = nm := HS.out.fed.now.len
        have hbd : nm + ys.length ≤ 100000000 := by
          have h1 := totj_succ hlt
          have h2 := totj_le ps (j + 1)
          have h3 := HS.out.len
          have h4 := HSZ.out
          rw [← hys] at h1
          omega
        have HNM := Lib.hid hnm
        clear hrd hys hBp hnm
        have hmk := make_cap ys.length (by omega)
        have hwr : IntKind.i64.wrap ((ys.length : Int) + 3) = ys.length + 3 := by rw [IntKind.wrap_i64]; omega
        obtain ⟨ws, hws⟩ : ∃ ws, ws = ys ++ [91, 92, 93] := ⟨_, rfl⟩
        have HWL := Lib.hid (show ws.length = ys.length + 3 by rw [hws]; simp)
        have HWB := Lib.hid (show ∀ x ∈ ws, 0 ≤ x ∧ x ≤ 255 by rw [hws]; exact fun x hx => (List.mem_append.1 hx).elim (HYX.out x) (by simp; rintro (rfl | rfl | rfl) <;> decide))
        have HWS := Lib.hid hws
        clear hws
        go_wp2_with (at_builtin; first | (refine wpList_append_bs rfl _ _ rfl wr.heap.size (.slice (some ⟨wr.heap.size, 0, none⟩) 0 (ys.length + 3)) [] rfl (own_made wr wr.heap.size ys.length (Nat.le_refl _) (by omega)) Ap ys.length cp ys rfl (HBP.out.next ((Below.refl _ _).alloc (Nat.le_refl _) _)) (by simp <;> omega) (by simp) ?_; intro va1 wa1 ho5 hg5 _; have HBa1 := Lib.hid (show Below wr.heap.size wr wa1 from ((Below.refl _ _).alloc (Nat.le_refl _) _).grown hg5 (by simp) (fun k hk => by simp [Value.ownBlock] at hk; omega)); have HOa1 := Lib.hid (show Own wa1 wr.heap.size va1 ys from ho5); clear ho5 hg5) | (refine wpList_append_bs rfl _ _ rfl wr.heap.size va1 ys rfl (HOa1.out.next ((Below.refl _ _).alloc (Nat.le_refl _) _)) (some ⟨wa1.heap.size, 0, none⟩) 3 3 [91, 92, 93] rfl (three9 wa1) (by omega) (by have := HBa1.out.size; simp; omega) ?_; intro va2 wa ho6 hg6 _; have HBa := Lib.hid (show Below wr.heap.size wr wa from (HBa1.out.alloc HBa1.out.size _).grown hg6 (by have := HBa1.out.size; simp; omega) (fun k hk => (HOa1.out.blk k hk).1)); have HOa := Lib.hid (show Own wa wr.heap.size va2 ws by rw [HWS.out]; exact ho6); clear ho6 hg6; obtain ⟨gw, cw, rfl, hgw1, hgw2, hCw⟩ := HOa.out.cr (by have := HWL.out; omega); have HCW := Lib.hid hCw; have m0 : wa.cell? ⟨w3.heap.size, 0, none⟩ = some (.int .i64 most) := cell_blk (keepB HBa.out HS.out.box) rfl; have m1' : wa.cell? ⟨w3.heap.size, 1, none⟩ = some (.slice M nm cm) := cell_blk (keepB HBa.out HS.out.box) rfl; clear hCw))
        clear hmk hcell HOa1 HBa1
        refine (rfeed_any most M nm cm zs (FBs.below (Foot.bound HX.out) HBa.out) Ap ys.length cp ys (HBP.out.next HBa.out) m1 m2 (by omega)).mono ?_
        rintro e w4 ⟨M', n', c', zs', F, f, rfl, hn', hcut, hzx, hfed, hF, hb4⟩
        obtain ⟨ng, nv⟩ := HS.out.gm_ne
        have hlen' : zs'.length = n' := hfed.now.len
        have hvl : ∀ k, v.ownBlock = some k → k < wr.heap.size := HS.out.dec.vlt
        have hgl' : w1.heap.size < wr.heap.size := HS.out.dec.glt
        have hml : w3.heap.size < wr.heap.size := (Array.getElem?_eq_some_iff.1 HS.out.box).1
        have hza : wr.heap.size ≤ wa.heap.size := HBa.out.size
        have hz4 : wa.heap.size ≤ w4.heap.size := hb4.size
        have HD4 := Lib.hid (HS.out.dec.below (belowT HBa.out hb4))
        have HB4 := Lib.hid (belowT HS.out.below (belowT HBa.out hb4))
        have HM4 := Lib.hid (keepB (belowT HBa.out hb4) HS.out.box)
        have HF4 := Lib.hid hF
        have hlk : ∀ k, u9.ownBlock = some k → k < wr.heap.size := Kd.N_lt HM.out.kept
        have hlw : ∀ k, u10.ownBlock = some k → k < wr.heap.size := Kd.N_lt HM.out.want
        have hll : ∀ k, u11.ownBlock = some k → k < wr.heap.size := Kd.N_lt HM.out.lists
        have hld : ∀ q ∈ Q, ∀ k, q.2.ownBlock = some k → k < wr.heap.size := fun q hq k e => ((HM.out.dat.own q hq).blk k e).2
        have hlg : ∀ x ∈ gs, ∀ k, x.ownBlock = some k → k < wr.heap.size := fun x hx k e => by
          obtain ⟨r, h1⟩ := HM.out.gots x hx
          exact Kd.N_lt h1 k e
        have HLK := Lib.hid hlk
        have HLW := Lib.hid hlw
        have HLL := Lib.hid hll
        obtain ⟨csw, hty⟩ := own_typed HOa.out gw (by simp [Value.ownBlock])
        have HTY4 := Lib.hid (keepB hb4 hty)
        have HFD4 := Lib.hid (hfed.mono (ok' := fun k => Pm w1.heap.size w3.heap.size v k ∧ LX u9 u10 u11 Q gs k ∧ k ≠ gw) (by
          rintro k (⟨hk, hlt⟩ | hk)
          · exact ⟨hk.1, hk.2, by omega⟩
          · exact ⟨⟨by omega, fun e => by have := hvl k e.symm; omega, by omega⟩, ⟨fun e => by have := hlk k e.symm; omega, fun e => by have := hlw k e.symm; omega, fun e => by have := hll k e.symm; omega, fun q hq e => by have := hld q hq k e.symm; omega, fun x hx e => by have := hlg x hx k e.symm; omega⟩, by omega⟩))
        have HVL := Lib.hid hvl
        have HCUT := Lib.hid hcut
        have HZX := Lib.hid hzx
        have HLEN := Lib.hid hlen'
        have HNV := Lib.hid nv
        have HNG := Lib.hid ng
        have HXZ := Lib.hid HS.out.fed.now.byt
        have HCW4 := Lib.hid (HCW.out.below hgw2 hb4)
        have HR4 := Lib.hid ((HM.out.bd (P' := fun k => Pm w1.heap.size w3.heap.size v k ∧ k ≠ gw) fun k hk hl => ⟨hk, by omega⟩).below (belowT HBa.out hb4))
        clear hfed hF hb4 hcut hzx hlen' hvl m0 m1' nv ng HCW HM HOa hlk hlw hll hld hlg hty HX
        go_upto_region 16 with fail
        obtain ⟨w5, hw5⟩ : ∃ w5, w5 = w4.alloc (.cells #[.int .i64 most, .slice M' n' c'] 53) := ⟨_, rfl⟩
        have hb45 : Below w4.heap.size w4 w5 := by rw [hw5]; exact (Below.refl _ _).alloc (Nat.le_refl _) _
        have hn5 : w5.heap[w4.heap.size]? = some (rdec most M' n' c') := by rw [hw5]; exact alloc_at _ _
        rw [← hw5]
        have HB5 := Lib.hid (belowT HB4.out hb45)
        have HB45 := Lib.hid hb45
        have HN5 := Lib.hid hn5
        have HCW5 := Lib.hid (HCW4.out.below (by omega) hb45)
        have HR5 := Lib.hid (HR4.out.below hb45)
        have hz5 : w4.heap.size < w5.heap.size := (Array.getElem?_eq_some_iff.1 hn5).1
        have hq5 : Bs w5 (some ⟨gw, 0, none⟩) ys.length cw ys := by
          have h1 := (HCW5.out.bs' rfl HWB.out).take' ys.length (by have := HWL.out; omega)
          have h2 : ws.take ys.length = ys := by rw [HWS.out]; simp
          rw [h2] at h1
          exact h1
        have HQ5 := Lib.hid hq5
        have hcc : ys.length ≤ cw := hq5.cap
        have hcm : cw ≤ 9223372036854775807 := hq5.max
        clear hw5 hb45 hn5 hq5 HCW4 HR4
        go_wp2_with fail
        refine (feed_decM' (HU.out.at_ HB1.out).good (HU.out.at_ HB1.out).law w1.heap.size most zs v b HB5.out (HD4.out.below HB45.out) (Nat.le_refl _) HXZ.out (some ⟨gw, 0, none⟩) ys.length cw ys HQ5.out m1 m2 (by have := restX_len most zs; have := HNM.out; omega)).mono ?_
        rintro e w6 ⟨f6, v6, b6, rfl, hF6⟩
        obtain ⟨Qn, hQn, hN6, hD6⟩ := hF6.frames
        obtain ⟨A6, c6, rfl, _⟩ := Kd.N_reads (NO_N hF6.frames)
        have hkk : ∀ k, k < w5.heap.size → k ≠ w1.heap.size → some k ≠ v.ownBlock → w6.heap[k]? = w5.heap[k]? := fun k h1 h2 h3 => hF6.kept.2 k h1 (fun h => h.elim h2 h3)
        have hm6 : w6.heap[w3.heap.size]? = some (rdec most M nm cm) := (hkk _ (by omega) HNG.out HNV.out).trans (keepB HB45.out HM4.out)
        have hn6 : w6.heap[w4.heap.size]? = some (rdec most M' n' c') := (hkk _ hz5 (by omega) (fun e => by have := HVL.out _ e.symm; omega)).trans HN5.out
        have hv6 : ∀ k, k < w5.heap.size → some k ≠ v.ownBlock → some k ≠ v6.ownBlock := fun k h1 h2 => by
          rcases hF6.row with h | h | ⟨i, h, hi⟩
          · rw [h]; exact h2
          · rw [h]; simp
          · rw [h]; intro e; injection e with e; omega
        have hfd6 : FBs w6 (fun k => Pm w1.heap.size w3.heap.size v6 k ∧ LX u9 u10 u11 (Q ++ Qn) (gs ++ [Value.slice A6 (newX most zs ys).length c6]) k ∧ k ≠ gw) M' n' c' zs' := by
          have h1 := (HFD4.out.below HB45.out)
          have h2 : FBs w5 (fun k => (Pm w1.heap.size w3.heap.size v k ∧ LX u9 u10 u11 Q gs k ∧ k ≠ gw) ∧ k < w5.heap.size) M' n' c' zs' := Foot.bound h1
          exact (h2.step (w1 := w6) fun k hk hlt => hkk k hlt hk.1.1.1 hk.1.1.2.1).mono fun k hk => ⟨⟨hk.1.1.1, hv6 k hk.2 hk.1.1.2.1, hk.1.1.2.2⟩, ⟨hk.1.2.1.1, hk.1.2.1.2.1, hk.1.2.1.2.2.1, fun q hq e => by
            rcases List.mem_append.1 hq with hq | hq
            · exact hk.1.2.1.2.2.2.1 q hq e
            · have h3 := (hD6.ok q hq k e.symm).1
              have := hk.2
              omega, fun x hx e => by
            rcases List.mem_append.1 hx with hx | hx
            · exact hk.1.2.1.2.2.2.2 x hx e
            · rw [List.mem_singleton.1 hx] at e
              have h3 := (hN6.1 k e.symm).1
              have := hk.2
              omega⟩, hk.1.2.2⟩
        have hFw6 : Kd.F kFr w6 (fun k => wa.heap.size ≤ k ∧ k < w5.heap.size) F (newX most zs ys).length (newX most zs ys) := Kd.F_mono (Kd.F_step (Kd.F_bound (Kd.F_below HF4.out HB45.out)) fun k hk hlt => hkk k hlt (by omega) (fun e => by have := HVL.out k e.symm; omega)) fun k hk => hk
        have hR6 : MRow w6 w1.heap.size (fun k => Pm w1.heap.size w3.heap.size v6 k ∧ k ≠ gw) u9 u10 u11 Q (Q ++ Qn) (framesX most zs) gs (gs ++ [.slice A6 (newX most zs ys).length c6]) :=
          HR5.out.fed (fun k hk hlt => hkk k hlt hk.1.1 hk.1.2.1) (fun k hk hlt => ⟨⟨hk.1.1, hv6 k hlt hk.1.2.1, hk.1.2.2⟩, hk.2⟩)
            (Kd.N_mono (Kd.N_lower hN6 (by omega)) fun k hk => ⟨⟨⟨by omega, hk.2, by omega⟩, by omega⟩, hk.1⟩) ((hD6.lower (by omega)).mono fun k hk => ⟨⟨⟨by omega, hk.2, by omega⟩, by omega⟩, hk.1⟩)
        have hvg : some gw ≠ v6.ownBlock := hv6 gw (by omega) (fun e => by have := HVL.out gw e.symm; omega)
        have HTY6 := Lib.hid ((hkk gw (by omega) (by omega) (fun e => by have := HVL.out gw e.symm; omega)).trans (keepB HB45.out HTY4.out))
        have HVG := Lib.hid hvg
        have HV6N := Lib.hid (show ∀ k, wa.heap.size ≤ k → k < w5.heap.size → some k ≠ v6.ownBlock from fun k h1 h2 => hv6 k h2 (fun e => by have := HVL.out k e.symm; omega))
        have hg6 := Kd.N_mono hN6 (ok' := fun k => w5.heap.size ≤ k ∧ some k ≠ v6.ownBlock) fun k hk => hk
        have hcw6 := HCW5.out.blk (hkk gw (by omega) (by omega) (fun e => by have := HVL.out gw e.symm; omega))
        have hdec6 := (hF6.dec.cut_eq HCUT.out)
        have hNg := Kd.N_F (NO_N hF6.frames)
        have he6 : errX most (zs ++ ys) b6 = errX most zs' b6 := by unfold errX codeX; rw [HCUT.out]
        rw [he6]
        have HB6 := Lib.hid hF6.below
        have HM6 := Lib.hid hm6
        have HFD6 := Lib.hid hfd6
        have HFW6 := Lib.hid hFw6
        have HDC6 := Lib.hid hdec6
        have HFG6 := Lib.hid hNg
        have HR6 := Lib.hid hR6
        have HG6 := Lib.hid hg6
        have HCW6 := Lib.hid hcw6
        have HQN := Lib.hid hQn
        have hwa6 : w5.heap.size ≤ w6.heap.size := hF6.kept.1
        have c0 : w6.cell? ⟨w4.heap.size, 0, none⟩ = some (.int .i64 most) := cell_blk hn6 rfl
        have c1 : w6.cell? ⟨w4.heap.size, 1, none⟩ = some (.slice M' n' c') := cell_blk hn6 rfl
        have k0 : w6.cell? ⟨w3.heap.size, 0, none⟩ = some (.int .i64 most) := cell_blk hm6 rfl
        have k1 : w6.cell? ⟨w3.heap.size, 1, none⟩ = some (.slice M nm cm) := cell_blk hm6 rfl
        have k2 : ∀ i, w6.frozen? ⟨w3.heap.size, i, none⟩ = false := fun i => free_blk hm6
        clear hF6 hkk hm6 hn6 hv6 hvg hfd6 hFw6 hdec6 hNg he6 hR6 hg6 hcw6 hQn hN6 hD6 HR5 HCW5
        go_upto_region 18 with fail
        obtain ⟨w7, hw7⟩ : ∃ w7, w7 = (w6.setCell ⟨w3.heap.size, 0, none⟩ (.int .i64 most)).setCell ⟨w3.heap.size, 1, none⟩ (.slice M' n' c') := ⟨_, rfl⟩
        have hst : ∀ k, k ≠ w3.heap.size → w7.heap[k]? = w6.heap[k]? := fun k hk => by rw [hw7, set_other _ hk, set_other _ hk]
        have hm7 : w7.heap[w3.heap.size]? = some (rdec most M' n' c') := by rw [hw7]; exact set_blk _ (set_blk _ HM6.out)
        have hb7 : Below w1.heap.size w1 w7 := by rw [hw7]; exact (HB6.out.setCell hz3 _).setCell hz3 _
        have ng7 : w1.heap.size ≠ w3.heap.size := by omega
        have hv67 : ∀ k, v6.ownBlock = some k → k ≠ w3.heap.size := fun k hk e => by
          subst e
          by_cases hc : codeX most zs' = 0
          · obtain ⟨cs, h1⟩ := own_typed (HDC6.out.live hc).2 _ hk
            rw [HM6.out] at h1; simp at h1
          · rw [(HDC6.out.dead hc).2.2] at hk; simp [Value.ownBlock] at hk
        have hd7 : DecV sa w1 w7 w1.heap.size most zs' v6 b6 := HDC6.out.step (hst _ ng7) (fun k hk => hst k (hv67 k hk)) (fun hc => hst b6 (fun e => by
          have h1 := (HDC6.out.dead hc).2.1
          rw [e, HM6.out] at h1; simp at h1))
        have hfd7 := HFD6.out.step (w1 := w7) (fun k hk _ => hst k hk.1.2.2)
        have hfw7 := Kd.F_step HFW6.out (W1 := w7) (fun k hk _ => hst k (by omega))
        have hfg7 := Kd.F_step HFG6.out (W1 := w7) (fun k hk _ => hst k (by omega))
        have hr7 := HR6.out.step (w1 := w7) (fun k hk _ => hst k hk.1.2.2)
        have HTY7 := Lib.hid ((hst gw (by omega)).trans HTY6.out)
        have HFD7 := Lib.hid hfd7
        have hg7 := Kd.N_step HG6.out (w1 := w7) (fun k hk _ => hst k (by omega))
        have hcw7 := HCW6.out.blk (hst gw (by omega))
        have hz67 : w6.heap.size = w7.heap.size := by rw [hw7]; simp
        rw [← hw7]
        have HS7 := Lib.hid (show FStep sa w1 w7 w1.heap.size w3.heap.size most ps (j + 1) zs' v6 b6 M' n' c' from ⟨hb7, hd7, hm7, hfd7.mono fun k hk => hk.1, by
          have h1 := totj_succ hlt
          have h2 := HS.out.len
          have h3 := HNM.out
          rw [← HY.out] at h1
          rw [HLEN.out]
          omega, hz3⟩)
        have HFW7 := Lib.hid hfw7
        have HFG7 := Lib.hid hfg7
        have HR7 := Lib.hid hr7
        have HG7 := Lib.hid hg7
        have HCW7 := Lib.hid hcw7
        have HBW7 := Lib.hid (HBW.out.next (belowT HB1.out hb7))
        have HNL := Lib.hid (show (newX most zs ys).length ≤ 9223372036854775807 by
          have h1 := framesX_le most (zs ++ ys)
          rw [framesX_app, List.length_append, List.length_append] at h1
          have := HNM.out
          omega)
        clear hst hm7 hb7 hv67 hd7 hfd7 hfw7 hfg7 hw7 c0 c1 k0 k1 k2 hr7 hg7 hcw7
        have hx : ∀ j, j < 3 → w7.cell? ⟨gw, ys.length + j, none⟩ = some (.int .u8 (91 + j)) := fun j hj => by
          have h1 := HCW7.out.rd (ys.length + j) (by have := HWL.out; omega)
          rw [Nat.zero_add] at h1
          rw [h1, HWS.out, List.getD_eq_getElem?_getD, List.getElem?_append_right (by omega), Nat.add_sub_cancel_left]
          match j, hj with
          | 0, _ => rfl
          | 1, _ => rfl
          | 2, _ => rfl
          | k + 3, h => exact absurd h (by omega)
        have x0 : w7.cell? ⟨gw, ys.length, none⟩ = some (.int .u8 91) := hx 0 (by omega)
        have x1 : w7.cell? ⟨gw, ys.length + 1, none⟩ = some (.int .u8 92) := hx 1 (by omega)
        have x2 : w7.cell? ⟨gw, ys.length + 2, none⟩ = some (.int .u8 93) := hx 2 (by omega)
        clear hx
        have HWN7 := Lib.hid (show Up w7 (fun w' => Bs w' (some ⟨gw, 0, none⟩) ys.length cw ys) from fun w' hb => by
          have h1 := ((HCW7.out.below (by omega) hb).bs' rfl HWB.out).take' ys.length (by have := HWL.out; omega)
          have h2 : ws.take ys.length = ys := by rw [HWS.out]; simp
          rw [h2] at h1
          exact h1)
        have i0 : (ys.length : Int) < ws.length := by have := HWL.out; omega
        have i1 : (ys.length : Int) + 1 < ws.length := by have := HWL.out; omega
        have i2 : (ys.length : Int) + 2 < ws.length := by have := HWL.out; omega
        have j0 : (0 : Int) ≤ (ys.length : Int) + 1 := by omega
        have j1 : (0 : Int) ≤ (ys.length : Int) + 2 := by omega
        have t1 : ((ys.length : Int) + 1).toNat = ys.length + 1 := by omega
        have t2 : ((ys.length : Int) + 2).toNat = ys.length + 2 := by omega
        have r1 : IntKind.i64.wrap ((ys.length : Int) + 1) = ys.length + 1 := by rw [IntKind.wrap_i64]; omega
        have r2 : IntKind.i64.wrap ((ys.length : Int) + 2) = ys.length + 2 := by rw [IntKind.wrap_i64]; omega
        refine start_ (n := 36) (S := fun w' => w'.cell? ⟨gw, ys.length, none⟩ = some (.int .u8 91) ∧ w'.cell? ⟨gw, ys.length + 1, none⟩ = some (.int .u8 92) ∧ w'.cell? ⟨gw, ys.length + 2, none⟩ = some (.int .u8 93) ∧ Hid (Below w7.heap.size w7 w')) (ds := []) #[false, false, false, false, false, false, false, false, false, false, false, false, false, false, false, false, false, false, false, false, false, false, false, false, false, false, false, false, false, false, false, false, false, false, false, false] (by kernel_rfl) rfl rfl (⟨x0, x1, x2, Lib.hid (Below.refl _ _).drew⟩) (fun hHeld => ?_)
        refine pure_ (i := 0) (N := some 92) (v := ?_) (a' := ?_) #[true, false, false, false, false, false, false, false, false, false, false, false, false, false, false, false, false, false, false, false, false, false, false, false, false, false, false, false, false, false, false, false, false, false, false, false] rfl rfl (by kernel_rfl) (fun _ _ _ h => h) (Or.inl ⟨by rfl, ?_⟩) ?_ ?_
        rotate_left
        · intro w'
          go_simp
          with_reducible rfl
        rotate_left
        · simp only [Act.put, List.setIfInBounds_toArray, List.set_cons_zero, List.set_cons_succ, i64_w, i32_w]
          rfl
        refine pure_ (i := 1) (N := some 93) (v := ?_) (a' := ?_) #[true, true, false, false, false, false, false, false, false, false, false, false, false, false, false, false, false, false, false, false, false, false, false, false, false, false, false, false, false, false, false, false, false, false, false, false] rfl rfl (by kernel_rfl) (fun _ _ _ h => h) (Or.inl ⟨by rfl, ?_⟩) ?_ ?_
        rotate_left
        · intro w'
          go_simp
          with_reducible rfl
        rotate_left
        · simp only [Act.put, List.setIfInBounds_toArray, List.set_cons_zero, List.set_cons_succ, i64_w, i32_w]
          rfl
        refine pure_ (i := 2) (N := some 94) (v := ?_) (a' := ?_) #[true, true, true, false, false, false, false, false, false, false, false, false, false, false, false, false, false, false, false, false, false, false, false, false, false, false, false, false, false, false, false, false, false, false, false, false] rfl rfl (by kernel_rfl) (fun _ _ _ h => h) (Or.inl ⟨by rfl, ?_⟩) ?_ ?_
        rotate_left
        · intro w'
          go_simp
          with_reducible rfl
        rotate_left
        · simp only [Act.put, List.setIfInBounds_toArray, List.set_cons_zero, List.set_cons_succ, i64_w, i32_w]
          rfl
        refine pure_ (i := 4) (N := some 96) (v := ?_) (a' := ?_) #[true, true, true, false, true, false, false, false, false, false, false, false, false, false, false, false, false, false, false, false, false, false, false, false, false, false, false, false, false, false, false, false, false, false, false, false] rfl rfl (by kernel_rfl) (fun _ _ _ h => h) (Or.inl ⟨by rfl, ?_⟩) ?_ ?_
        rotate_left
        · intro w'
          go_simp
          with_reducible rfl
        rotate_left
        · simp only [Act.put, List.setIfInBounds_toArray, List.set_cons_zero, List.set_cons_succ, i64_w, i32_w]
          rfl
        refine take_ (i := 3) (N := some 95) (v := ?_) (a' := ?_) #[true, true, true, true, true, false, false, false, false, false, false, false, false, false, false, false, false, false, false, false, false, false, false, false, false, false, false, false, false, false, false, false, false, false, false, false] rfl rfl (by kernel_rfl) (fun _ _ _ h => h) (Or.inl ⟨by rfl, ?_⟩) hHeld ?_ ?_
        rotate_left
        · rintro w' ⟨s0, s1, s2, s3⟩
          refine (conv_runC (by rfl) (by rfl) (HWN7.out.at_ s3.out).C).trans ?_
          with_reducible rfl
        rotate_left
        · simp only [Act.put, List.setIfInBounds_toArray, List.set_cons_zero, List.set_cons_succ, i64_w, i32_w]
          rfl
        refine take_ (i := 5) (N := some 97) (v := ?_) (a' := ?_) #[true, true, true, true, true, true, false, false, false, false, false, false, false, false, false, false, false, false, false, false, false, false, false, false, false, false, false, false, false, false, false, false, false, false, false, false] rfl rfl (by kernel_rfl) (fun _ _ _ h => h) (Or.inl ⟨by rfl, ?_⟩) hHeld ?_ ?_
        rotate_left
        · rintro w' ⟨s0, s1, s2, s3⟩
          refine (conv_runC (by rfl) (by rfl) (HBW7.out.next s3.out).C).trans ?_
          with_reducible rfl
        rotate_left
        · simp only [Act.put, List.setIfInBounds_toArray, List.set_cons_zero, List.set_cons_succ, i64_w, i32_w]
          rfl
        refine pure_ (i := 6) (N := some 98) (v := ?_) (a' := ?_) #[true, true, true, true, true, true, true, false, false, false, false, false, false, false, false, false, false, false, false, false, false, false, false, false, false, false, false, false, false, false, false, false, false, false, false, false] rfl rfl (by kernel_rfl) (fun _ _ _ h => h) (Or.inl ⟨by rfl, ?_⟩) ?_ ?_
        rotate_left
        · intro w'
          go_simp
          with_reducible rfl
        rotate_left
        · simp only [Act.put, List.setIfInBounds_toArray, List.set_cons_zero, List.set_cons_succ, i64_w, i32_w]
          rfl
        refine pure_ (i := 7) (N := some 99) (v := ?_) (a' := ?_) #[true, true, true, true, true, true, true, true, false, false, false, false, false, false, false, false, false, false, false, false, false, false, false, false, false, false, false, false, false, false, false, false, false, false, false, false] rfl rfl (by kernel_rfl) (fun _ _ _ h => h) (Or.inl ⟨by rfl, ?_⟩) ?_ ?_
        rotate_left
        · intro w'
          go_simp
          with_reducible rfl
        rotate_left
        · simp only [Act.put, List.setIfInBounds_toArray, List.set_cons_zero, List.set_cons_succ, i64_w, i32_w]
          rfl
        refine pure_ (i := 8) (N := some 100) (v := ?_) (a' := ?_) #[true, true, true, true, true, true, true, true, true, false, false, false, false, false, false, false, false, false, false, false, false, false, false, false, false, false, false, false, false, false, false, false, false, false, false, false] rfl rfl (by kernel_rfl) (fun _ _ _ h => h) (Or.inl ⟨by rfl, ?_⟩) ?_ ?_
        rotate_left
        · intro w'
          go_simp
          with_reducible rfl
        rotate_left
        · simp only [Act.put, List.setIfInBounds_toArray, List.set_cons_zero, List.set_cons_succ, i64_w, i32_w]
          rfl
        refine pure_ (i := 9) (N := some 101) (v := ?_) (a' := ?_) #[true, true, true, true, true, true, true, true, true, true, false, false, false, false, false, false, false, false, false, false, false, false, false, false, false, false, false, false, false, false, false, false, false, false, false, false] rfl rfl (by kernel_rfl) (fun _ _ _ h => h) (Or.inl ⟨by rfl, ?_⟩) ?_ ?_
        rotate_left
        · intro w'
          go_simp
          with_reducible rfl
        rotate_left
        · simp only [Act.put, List.setIfInBounds_toArray, List.set_cons_zero, List.set_cons_succ, i64_w, i32_w]
          rfl
        refine pure_ (i := 10) (N := some 102) (v := ?_) (a' := ?_) #[true, true, true, true, true, true, true, true, true, true, true, false, false, false, false, false, false, false, false, false, false, false, false, false, false, false, false, false, false, false, false, false, false, false, false, false] rfl rfl (by kernel_rfl) (fun _ _ _ h => h) (Or.inl ⟨by rfl, ?_⟩) ?_ ?_
        rotate_left
        · intro w'
          go_simp
          with_reducible rfl
        rotate_left
        · simp only [Act.put, List.setIfInBounds_toArray, List.set_cons_zero, List.set_cons_succ, i64_w, i32_w]
          rfl
        refine take_ (i := 11) (N := some 103) (v := ?_) (a' := ?_) #[true, true, true, true, true, true, true, true, true, true, true, true, false, false, false, false, false, false, false, false, false, false, false, false, false, false, false, false, false, false, false, false, false, false, false, false] rfl rfl (by kernel_rfl) (fun _ _ _ h => h) (Or.inl ⟨by rfl, ?_⟩) hHeld ?_ ?_
        rotate_left
        · rintro w' ⟨s0, s1, s2, s3⟩
          go_simp
          with_reducible rfl
        rotate_left
        · simp only [Act.put, List.setIfInBounds_toArray, List.set_cons_zero, List.set_cons_succ, i64_w, i32_w]
          rfl
        refine pure_ (i := 12) (N := some 104) (v := ?_) (a' := ?_) #[true, true, true, true, true, true, true, true, true, true, true, true, true, false, false, false, false, false, false, false, false, false, false, false, false, false, false, false, false, false, false, false, false, false, false, false] rfl rfl (by kernel_rfl) (fun _ _ _ h => h) (Or.inl ⟨by rfl, ?_⟩) ?_ ?_
        rotate_left
        · intro w'
          go_simp
          with_reducible rfl
        rotate_left
        · simp only [Act.put, List.setIfInBounds_toArray, List.set_cons_zero, List.set_cons_succ, i64_w, i32_w]
          rfl
        refine pure_ (i := 13) (N := some 105) (v := ?_) (a' := ?_) #[true, true, true, true, true, true, true, true, true, true, true, true, true, true, false, false, false, false, false, false, false, false, false, false, false, false, false, false, false, false, false, false, false, false, false, false] rfl rfl (by kernel_rfl) (fun _ _ _ h => h) (Or.inl ⟨by rfl, ?_⟩) ?_ ?_
        rotate_left
        · intro w'
          go_simp
          with_reducible rfl
        rotate_left
        · simp only [Act.put, List.setIfInBounds_toArray, List.set_cons_zero, List.set_cons_succ, i64_w, i32_w]
          rfl
        refine pure_ (i := 14) (N := some 106) (v := ?_) (a' := ?_) #[true, true, true, true, true, true, true, true, true, true, true, true, true, true, true, false, false, false, false, false, false, false, false, false, false, false, false, false, false, false, false, false, false, false, false, false] rfl rfl (by kernel_rfl) (fun _ _ _ h => h) (Or.inl ⟨by rfl, ?_⟩) ?_ ?_
        rotate_left
        · intro w'
          go_simp
          with_reducible rfl
        rotate_left
        · simp only [Act.put, List.setIfInBounds_toArray, List.set_cons_zero, List.set_cons_succ, i64_w, i32_w]
          rfl
        refine pure_ (i := 15) (N := some 107) (v := ?_) (a' := ?_) #[true, true, true, true, true, true, true, true, true, true, true, true, true, true, true, true, false, false, false, false, false, false, false, false, false, false, false, false, false, false, false, false, false, false, false, false] rfl rfl (by kernel_rfl) (fun _ _ _ h => h) (Or.inl ⟨by rfl, ?_⟩) ?_ ?_
        rotate_left
        · intro w'
          go_simp
          with_reducible rfl
        rotate_left
        · simp only [Act.put, List.setIfInBounds_toArray, List.set_cons_zero, List.set_cons_succ, i64_w, i32_w]
          rfl
        refine pure_ (i := 16) (N := some 108) (v := ?_) (a' := ?_) #[true, true, true, true, true, true, true, true, true, true, true, true, true, true, true, true, true, false, false, false, false, false, false, false, false, false, false, false, false, false, false, false, false, false, false, false] rfl rfl (by kernel_rfl) (fun _ _ _ h => h) (Or.inl ⟨by rfl, ?_⟩) ?_ ?_
        rotate_left
        · intro w'
          go_simp
          with_reducible rfl
        rotate_left
        · simp only [Act.put, List.setIfInBounds_toArray, List.set_cons_zero, List.set_cons_succ, i64_w, i32_w]
          rfl
        refine pure_ (i := 17) (N := some 109) (v := ?_) (a' := ?_) #[true, true, true, true, true, true, true, true, true, true, true, true, true, true, true, true, true, true, false, false, false, false, false, false, false, false, false, false, false, false, false, false, false, false, false, false] rfl rfl (by kernel_rfl) (fun _ _ _ h => h) (Or.inl ⟨by rfl, ?_⟩) ?_ ?_
        rotate_left
        · intro w'
          go_simp
          with_reducible rfl
        rotate_left
        · simp only [Act.put, List.setIfInBounds_toArray, List.set_cons_zero, List.set_cons_succ, i64_w, i32_w]
          rfl
        refine pure_ (i := 18) (N := some 110) (v := ?_) (a' := ?_) #[true, true, true, true, true, true, true, true, true, true, true, true, true, true, true, true, true, true, true, false, false, false, false, false, false, false, false, false, false, false, false, false, false, false, false, false] rfl rfl (by kernel_rfl) (fun _ _ _ h => h) (Or.inl ⟨by rfl, ?_⟩) ?_ ?_
        rotate_left
        · intro w'
          go_simp
          with_reducible rfl
        rotate_left
        · simp only [Act.put, List.setIfInBounds_toArray, List.set_cons_zero, List.set_cons_succ, i64_w, i32_w]
          rfl
        refine take_ (i := 19) (N := some 111) (v := ?_) (a' := ?_) #[true, true, true, true, true, true, true, true, true, true, true, true, true, true, true, true, true, true, true, true, false, false, false, false, false, false, false, false, false, false, false, false, false, false, false, false] rfl rfl (by kernel_rfl) (fun _ _ _ h => h) (Or.inl ⟨by rfl, ?_⟩) hHeld ?_ ?_
        rotate_left
        · rintro w' ⟨s0, s1, s2, s3⟩
          go_simp
          with_reducible rfl
        rotate_left
        · simp only [Act.put, List.setIfInBounds_toArray, List.set_cons_zero, List.set_cons_succ, i64_w, i32_w]
          rfl
        refine pure_ (i := 20) (N := some 112) (v := ?_) (a' := ?_) #[true, true, true, true, true, true, true, true, true, true, true, true, true, true, true, true, true, true, true, true, true, false, false, false, false, false, false, false, false, false, false, false, false, false, false, false] rfl rfl (by kernel_rfl) (fun _ _ _ h => h) (Or.inl ⟨by rfl, ?_⟩) ?_ ?_
        rotate_left
        · intro w'
          go_simp
          with_reducible rfl
        rotate_left
        · simp only [Act.put, List.setIfInBounds_toArray, List.set_cons_zero, List.set_cons_succ, i64_w, i32_w]
          rfl
        refine pure_ (i := 21) (N := some 113) (v := ?_) (a' := ?_) #[true, true, true, true, true, true, true, true, true, true, true, true, true, true, true, true, true, true, true, true, true, true, false, false, false, false, false, false, false, false, false, false, false, false, false, false] rfl rfl (by kernel_rfl) (fun _ _ _ h => h) (Or.inl ⟨by rfl, ?_⟩) ?_ ?_
        rotate_left
        · intro w'
          go_simp
          with_reducible rfl
        rotate_left
        · simp only [Act.put, List.setIfInBounds_toArray, List.set_cons_zero, List.set_cons_succ, i64_w, i32_w]
          rfl
        refine pure_ (i := 22) (N := some 114) (v := ?_) (a' := ?_) #[true, true, true, true, true, true, true, true, true, true, true, true, true, true, true, true, true, true, true, true, true, true, true, false, false, false, false, false, false, false, false, false, false, false, false, false] rfl rfl (by kernel_rfl) (fun _ _ _ h => h) (Or.inl ⟨by rfl, ?_⟩) ?_ ?_
        rotate_left
        · intro w'
          go_simp
          with_reducible rfl
        rotate_left
        · simp only [Act.put, List.setIfInBounds_toArray, List.set_cons_zero, List.set_cons_succ, i64_w, i32_w]
          rfl
        refine pure_ (i := 23) (N := some 115) (v := ?_) (a' := ?_) #[true, true, true, true, true, true, true, true, true, true, true, true, true, true, true, true, true, true, true, true, true, true, true, true, false, false, false, false, false, false, false, false, false, false, false, false] rfl rfl (by kernel_rfl) (fun _ _ _ h => h) (Or.inl ⟨by rfl, ?_⟩) ?_ ?_
        rotate_left
        · intro w'
          go_simp
          with_reducible rfl
        rotate_left
        · simp only [Act.put, List.setIfInBounds_toArray, List.set_cons_zero, List.set_cons_succ, i64_w, i32_w]
          rfl
        refine pure_ (i := 24) (N := some 116) (v := ?_) (a' := ?_) #[true, true, true, true, true, true, true, true, true, true, true, true, true, true, true, true, true, true, true, true, true, true, true, true, true, false, false, false, false, false, false, false, false, false, false, false] rfl rfl (by kernel_rfl) (fun _ _ _ h => h) (Or.inl ⟨by rfl, ?_⟩) ?_ ?_
        rotate_left
        · intro w'
          go_simp
          with_reducible rfl
        rotate_left
        · simp only [Act.put, List.setIfInBounds_toArray, List.set_cons_zero, List.set_cons_succ, i64_w, i32_w]
          rfl
        refine pure_ (i := 25) (N := some 117) (v := ?_) (a' := ?_) #[true, true, true, true, true, true, true, true, true, true, true, true, true, true, true, true, true, true, true, true, true, true, true, true, true, true, false, false, false, false, false, false, false, false, false, false] rfl rfl (by kernel_rfl) (fun _ _ _ h => h) (Or.inl ⟨by rfl, ?_⟩) ?_ ?_
        rotate_left
        · intro w'
          go_simp
          with_reducible rfl
        rotate_left
        · simp only [Act.put, List.setIfInBounds_toArray, List.set_cons_zero, List.set_cons_succ, i64_w, i32_w]
          rfl
        refine pure_ (i := 26) (N := some 118) (v := ?_) (a' := ?_) #[true, true, true, true, true, true, true, true, true, true, true, true, true, true, true, true, true, true, true, true, true, true, true, true, true, true, true, false, false, false, false, false, false, false, false, false] rfl rfl (by kernel_rfl) (fun _ _ _ h => h) (Or.inl ⟨by rfl, ?_⟩) ?_ ?_
        rotate_left
        · intro w'
          go_simp
          with_reducible rfl
        rotate_left
        · simp only [Act.put, List.setIfInBounds_toArray, List.set_cons_zero, List.set_cons_succ, i64_w, i32_w]
          rfl
        refine take_ (i := 27) (N := some 119) (v := ?_) (a' := ?_) #[true, true, true, true, true, true, true, true, true, true, true, true, true, true, true, true, true, true, true, true, true, true, true, true, true, true, true, true, false, false, false, false, false, false, false, false] rfl rfl (by kernel_rfl) (fun _ _ _ h => h) (Or.inl ⟨by rfl, ?_⟩) hHeld ?_ ?_
        rotate_left
        · rintro w' ⟨s0, s1, s2, s3⟩
          go_simp
          with_reducible rfl
        rotate_left
        · simp only [Act.put, List.setIfInBounds_toArray, List.set_cons_zero, List.set_cons_succ, i64_w, i32_w]
          rfl
        refine pure_ (i := 28) (N := some 120) (v := ?_) (a' := ?_) #[true, true, true, true, true, true, true, true, true, true, true, true, true, true, true, true, true, true, true, true, true, true, true, true, true, true, true, true, true, false, false, false, false, false, false, false] rfl rfl (by kernel_rfl) (fun _ _ _ h => h) (Or.inl ⟨by rfl, ?_⟩) ?_ ?_
        rotate_left
        · intro w'
          go_simp
          with_reducible rfl
        rotate_left
        · simp only [Act.put, List.setIfInBounds_toArray, List.set_cons_zero, List.set_cons_succ, i64_w, i32_w]
          rfl
        refine pure_ (i := 29) (N := some 121) (v := ?_) (a' := ?_) #[true, true, true, true, true, true, true, true, true, true, true, true, true, true, true, true, true, true, true, true, true, true, true, true, true, true, true, true, true, true, false, false, false, false, false, false] rfl rfl (by kernel_rfl) (fun _ _ _ h => h) (Or.inl ⟨by rfl, ?_⟩) ?_ ?_
        rotate_left
        · intro w'
          go_simp
          with_reducible rfl
        rotate_left
        · simp only [Act.put, List.setIfInBounds_toArray, List.set_cons_zero, List.set_cons_succ, i64_w, i32_w]
          rfl
        refine pure_ (i := 30) (N := some 122) (v := ?_) (a' := ?_) #[true, true, true, true, true, true, true, true, true, true, true, true, true, true, true, true, true, true, true, true, true, true, true, true, true, true, true, true, true, true, true, false, false, false, false, false] rfl rfl (by kernel_rfl) (fun _ _ _ h => h) (Or.inl ⟨by rfl, ?_⟩) ?_ ?_
        rotate_left
        · intro w'
          go_simp
          with_reducible rfl
        rotate_left
        · simp only [Act.put, List.setIfInBounds_toArray, List.set_cons_zero, List.set_cons_succ, i64_w, i32_w]
          rfl
        refine pure_ (i := 31) (N := some 123) (v := ?_) (a' := ?_) #[true, true, true, true, true, true, true, true, true, true, true, true, true, true, true, true, true, true, true, true, true, true, true, true, true, true, true, true, true, true, true, true, false, false, false, false] rfl rfl (by kernel_rfl) (fun _ _ _ h => h) (Or.inl ⟨by rfl, ?_⟩) ?_ ?_
        rotate_left
        · intro w'
          go_simp
          with_reducible rfl
        rotate_left
        · simp only [Act.put, List.setIfInBounds_toArray, List.set_cons_zero, List.set_cons_succ, i64_w, i32_w]
          rfl
        refine pure_ (i := 32) (N := some 124) (v := ?_) (a' := ?_) #[true, true, true, true, true, true, true, true, true, true, true, true, true, true, true, true, true, true, true, true, true, true, true, true, true, true, true, true, true, true, true, true, true, false, false, false] rfl rfl (by kernel_rfl) (fun _ _ _ h => h) (Or.inl ⟨by rfl, ?_⟩) ?_ ?_
        rotate_left
        · intro w'
          go_simp
          with_reducible rfl
        rotate_left
        · simp only [Act.put, List.setIfInBounds_toArray, List.set_cons_zero, List.set_cons_succ, i64_w, i32_w]
          rfl
        refine one_ (i := 33) (N := some 125) #[true, true, true, true, true, true, true, true, true, true, true, true, true, true, true, true, true, true, true, true, true, true, true, true, true, true, true, true, true, true, true, true, true, true, false, false] rfl rfl (by kernel_rfl) (by decide) (fun K hK => ?_)
        refine goes_ Tryd.func34 (by kernel_rfl) rfl #[.slice A6 (newX most zs ys).length c6, .slice F (newX most zs ys).length f] (by rfl) rfl rfl (by simp only [List.map_toArray, List.map_cons, List.map_nil]; rfl) ?_
        with_reducible refine (sameFrames_any rfl (Kd.F_mono (Kd.F_bound (Kd.F_below HFG7.out hHeld.2.2.2.out)) fun k hk => hk.2) (Kd.F_mono (Kd.F_bound (Kd.F_below HFW7.out hHeld.2.2.2.out)) fun k hk => hk.2) HNL.out).mono ?_
        rintro e w8 ⟨rfl, hb8⟩
        refine ⟨_, rfl, ?_⟩
        have HB8 := Lib.hid hb8
        clear hb8
        refine hK.out _ _ (⟨keepA HB8.out hHeld.1, keepA HB8.out hHeld.2.1, keepA HB8.out hHeld.2.2.1, Lib.hid (belowT hHeld.2.2.2.out HB8.out)⟩) (fun hHeld => ?_)
        clear hK K
        refine norm_ (a' := ?_) ?_ ?_
        rotate_left
        · show Act.put _ (some 125) _ = _
          simp only [Act.put, List.setIfInBounds_toArray, List.set_cons_zero, List.set_cons_succ, i64_w, i32_w]
          rfl
        refine pure_ (i := 34) (N := some 126) (v := ?_) (a' := ?_) #[true, true, true, true, true, true, true, true, true, true, true, true, true, true, true, true, true, true, true, true, true, true, true, true, true, true, true, true, true, true, true, true, true, true, true, false] rfl rfl (by kernel_rfl) (fun _ _ _ h => h) (Or.inl ⟨by rfl, ?_⟩) ?_ ?_
        rotate_left
        · intro w'
          go_simp
          with_reducible rfl
        rotate_left
        · simp only [Act.put, List.setIfInBounds_toArray, List.set_cons_zero, List.set_cons_succ, i64_w, i32_w]
          rfl
        refine pure_ (i := 35) (N := some 127) (v := ?_) (a' := ?_) #[true, true, true, true, true, true, true, true, true, true, true, true, true, true, true, true, true, true, true, true, true, true, true, true, true, true, true, true, true, true, true, true, true, true, true, true] rfl rfl (by kernel_rfl) (fun _ _ _ h => h) (Or.inl ⟨by rfl, ?_⟩) ?_ ?_
        rotate_left
        · intro w'
          go_simp
          with_reducible rfl
        rotate_left
        · simp only [Act.put, List.setIfInBounds_toArray, List.set_cons_zero, List.set_cons_succ, i64_w, i32_w]
          rfl
        refine done_ (by kernel_rfl) ?_
        have HB78 := Lib.hid hHeld.2.2.2.out
        have HS8 := Lib.hid (HS7.out.next HB78.out)
        have HFW8 := Lib.hid (Kd.F_below HFW7.out HB78.out)
        have HR8 := Lib.hid (HR7.out.below HB78.out)
        have HG8 := Lib.hid (Kd.N_below HG7.out HB78.out)
        have HCW8 := Lib.hid (HCW7.out.below (by omega) HB78.out)
        have HTY8 := Lib.hid (keepB HB78.out HTY7.out)
        have HFD8 := Lib.hid (HFD7.out.below HB78.out)
        have hz78 : w7.heap.size ≤ w8.heap.size := HB78.out.size
        clear hHeld HB8 x0 x1 x2 i0 i1 i2 j0 j1 t1 t2 r1 r2 HFG7 HFW7 HR7 HG7 HCW7 HTY7 HFD7 HWN7 HBW7
        go_wp2_with fail
        go_loopw [130] (fun kk wk => ∃ (k : Nat) (fw : Nat → Int), kk = .int .i64 k ∧ k ≤ ws.length ∧ Hid (CR wk gw 0 ws.length cw fw) ∧ Hid (Spr w8 wk gw 0)) (fun kk _ => ws.length - (intOf kk).toNat)
        case atStart => exact ⟨0, _, rfl, by omega, HCW8, Lib.hid (Spr.refl _ _ _)⟩
        case round =>
          obtain ⟨k, fw, rfl, hk, HC, HP⟩ := hrel
          rename World => w9
          by_cases hkn : k < ws.length
          · have hd2 : decide ((k : Int) < ws.length) = true := by simp; omega
            have hj0 : (0 : Int) ≤ (k : Int) := by omega
            have hj1 : (k : Int) < (ws.length : Int) := by omega
            have hws : ws.length ≤ 1000000000 := by have := HWL.out; omega
            have hcell := HC.out.rd k hkn
            have hfr := (HC.out.there k (by have := HC.out.le; omega)).2
            rw [Nat.zero_add] at hcell hfr
            have hnx := HC.out.set (by have := HP.out.size; omega) hkn 238
            rw [Nat.zero_add] at hnx
            have HNX := Lib.hid hnx
            clear hnx
            go_wp2_with fail
            go_roundw
            case rel => exact ⟨k + 1, _, by go_num, by omega, HNX, Lib.hid (HP.out.trans (Spr.set (Nat.zero_le _) _))⟩
            case measure => simp [intOf]; omega
          · obtain rfl : k = ws.length := by omega
            have hd2 : decide (((ws.length : Nat) : Int) < ws.length) = false := by simp
            have hst9 : ∀ k, k < w8.heap.size → k ≠ gw → w9.heap[k]? = w8.heap[k]? := fun k h1 h2 => HP.out.block k h1 h2
            have HS9 := Lib.hid (HS8.out.over HP.out HTY8.out HVG.out (by omega) (HFD8.out.mono fun k hk => ⟨hk.1, hk.2.2⟩))
            have HX9 := Lib.hid ((HFD8.out.step (w1 := w9) fun k hk hl => hst9 k hl hk.2.2).mono (ok' := fun k => Pm w1.heap.size w3.heap.size v6 k ∧ LX u9 u10 u11 (Q ++ Qn) (gs ++ [Value.slice A6 (newX most zs ys).length c6]) k) fun k hk => ⟨hk.1, hk.2.1⟩)
            have HR9 := Lib.hid ((HR8.out.step (w1 := w9) fun k hk hl => hst9 k hl hk.2).bd (P' := Pm w1.heap.size w3.heap.size v6) fun k hk _ => hk.1)
            have HG9 := Lib.hid (Kd.N_step HG8.out (w1 := w9) fun k hk hl => hst9 k hl (by omega))
            have HFW9 := Lib.hid (Kd.F_step HFW8.out (W1 := w9) fun k hk hl => hst9 k hl (by omega))
            have hz89 : w8.heap.size ≤ w9.heap.size := HP.out.size
            have hQl : Q.length = (framesX most zs).length := by rw [← HQ.out]; simp
            have hQnl : Qn.length = (newX most zs ys).length := by rw [← HQN.out]; simp
            have hfx : framesX most zs ++ newX most zs ys = framesX most zs' := by rw [← framesX_app]; unfold framesX; rw [HCUT.out]
            have hlen : (framesX most zs).length + (newX most zs ys).length ≤ 100000000 := by
              have h1 := framesX_le most (zs ++ ys)
              rw [framesX_app, List.length_append, List.length_append] at h1
              have := HNM.out
              omega
            have hfst : (Q ++ Qn).map Prod.fst = framesX most zs' := by rw [List.map_append, HQ.out, HQN.out, hfx]
            have HQL := Lib.hid hQl
            have HQNL := Lib.hid hQnl
            have HFX := Lib.hid hfx
            have HFST := Lib.hid hfst
            have HLN := Lib.hid hlen
            have HVT := Lib.hid HS9.out.dec.vlt
            have HZ9 : Hid (wr.heap.size ≤ wa.heap.size ∧ wa.heap.size ≤ w4.heap.size ∧ w4.heap.size < w5.heap.size ∧ w5.heap.size ≤ w9.heap.size ∧ w1.heap.size < wr.heap.size ∧ w3.heap.size < wr.heap.size) := Lib.hid ⟨by omega, by omega, by omega, by omega, by omega, by omega⟩
            clear HC HP HS8 HFW8 HR8 HG8 HCW8 HTY8 HFD8 hst9 hQl hQnl hfx hfst hlen HS7
            have hws : ws.length ≤ 1000000000 := by have := HWL.out; omega
            go_wp2_with (at_builtin; first | (refine Kd.N_append_rows (P := Tryd.prog) (Kd.raw 6) (w0 := w1) (W := w9) w1.heap.size rfl _ _ 56 45 (.agg #[(.int .u8 0), (.int .u8 0), (.int .u16 0), (.int .u32 0), (.int .u32 0), (.slice none 0 0)]) 40 rfl Tryd.underlying56 fr_info rfl (by decide) (by omega) u9 (Q.map cellsOf) (Qn.map cellsOf) A6 (newX most zs ys).length c6 (Pm w1.heap.size w3.heap.size v6) (fun k => w5.heap.size ≤ k ∧ some k ≠ v6.ownBlock) rfl rfl HR9.out.kept (Kd.N_F HG9.out) (fun k hk => ⟨⟨by have := HZ9.out; omega, hk.2, by have := HZ9.out; omega⟩, fun e => by have := HLK.out k e.symm; have := HZ9.out; omega⟩) (fun k hk => ⟨by have := HZ9.out; omega, fun e => by have := HVT.out k e.symm; omega, by have := HZ9.out; omega⟩) HS9.out.below HS9.out.below.size (by have h1 := HQL.out; have h2 := HLN.out; simp only [List.length_map]; omega) ?_; intro kv1 wK hk1 hk2 hk3 hk4; rw [← List.map_append] at hk1; have HRK := Lib.hid (HR9.out.addK hk1 hk3 hk4); have hxk := FBs_grow HX9.out hk3 hk4 (ok' := fun k => Pm w1.heap.size w3.heap.size v6 k ∧ LX kv1 u10 u11 (Q ++ Qn) (gs ++ [Value.slice A6 (newX most zs ys).length c6]) k) (fun k hk => hk.2.1) (fun k hk hn => ⟨hk.1, hn, hk.2.2⟩); have HXK := Lib.hid hxk; have HSK := Lib.hid (HS9.out.grow HR9.out.kept (by decide) hk3 hk2 (hxk.mono fun k hk => hk.1)); have HFWK := Lib.hid (F_grow HFW9.out hk3 fun k hk e => by have := HLK.out k e.symm; have := HZ9.out; omega); have HKN := Lib.hid (show ∀ k, wa.heap.size ≤ k → k < w5.heap.size → some k ≠ kv1.ownBlock from fun k h1 h2 e => by rcases hk4 with h | ⟨b', h, hb'⟩ <;> rw [h] at e <;> have h8 := HZ9.out <;> first | (have := HLK.out k e.symm; omega) | (have := Option.some.inj e; omega)); have HKL := Lib.hid (Kd.N_lt hk1); have HZK := Lib.hid hk3.size; clear hk1 hk2 hk3 hk4 hxk) | (refine Kd.N_append_rows (P := Tryd.prog) kFr (w0 := w1) (W := wK) w1.heap.size rfl _ _ 56 45 (.agg #[(.int .u8 0), (.int .u8 0), (.int .u16 0), (.int .u32 0), (.int .u32 0), (.slice none 0 0)]) 40 rfl Tryd.underlying56 fr_info rfl (by decide) (by omega) u10 (framesX most zs) (newX most zs ys) F (newX most zs ys).length f (fun k => Pm w1.heap.size w3.heap.size v6 k ∧ some k ≠ kv1.ownBlock ∧ some k ≠ u11.ownBlock) (fun k => wa.heap.size ≤ k ∧ k < w5.heap.size) rfl rfl HRK.out.want HFWK.out (fun k hk => ⟨⟨⟨by have := HZ9.out; omega, HV6N.out k hk.1 hk.2, by have := HZ9.out; omega⟩, HKN.out k hk.1 hk.2, fun e => by have := HLL.out k e.symm; have := HZ9.out; omega⟩, fun e => by have := HLW.out k e.symm; have := HZ9.out; omega⟩) (fun k hk => ⟨⟨by have := HZ9.out; have := HZK.out; omega, fun e => by have := HVT.out k e.symm; have := HZK.out; omega, by have := HZ9.out; have := HZK.out; omega⟩, fun e => by have := HKL.out k e.symm; omega, fun e => by have := HLL.out k e.symm; have := HZ9.out; have := HZK.out; omega⟩) HSK.out.below HSK.out.below.size (by have h2 := HLN.out; omega) ?_; intro wv1 wW hk1 hk2 hk3 hk4; rw [HFX.out] at hk1; have HRW := Lib.hid (HRK.out.addW hk1 hk3 hk4); have hxk := FBs_grow HXK.out hk3 hk4 (ok' := fun k => Pm w1.heap.size w3.heap.size v6 k ∧ LX kv1 wv1 u11 (Q ++ Qn) (gs ++ [Value.slice A6 (newX most zs ys).length c6]) k) (fun k hk => hk.2.2.1) (fun k hk hn => ⟨hk.1, hk.2.1, hn, hk.2.2.2⟩); have HXW := Lib.hid hxk; have HSW := Lib.hid (HSK.out.grow HRK.out.want (by decide) hk3 hk2 (hxk.mono fun k hk => hk.1)); have HZW := Lib.hid hk3.size; clear hk1 hk2 hk3 hk4 hxk) | go_loud (refine Kd.N_append (P := Tryd.prog) (Kd.raw 1) (w0 := w1) (W := wW) w1.heap.size rfl _ _ 57 56 (.slice none 0 0) 24 rfl Tryd.underlying57 lists_info rfl (by decide) (by omega) u11 (gs.map fun x => [x]) [.slice A6 (newX most zs ys).length c6] [.slice A6 (newX most zs ys).length c6] (Pm w1.heap.size w3.heap.size v6) (fun _ => False) rfl rfl (fun W' _ => ⟨rfl, rfl, fun u hu => by rw [List.mem_singleton.1 hu]; rfl⟩) (fun _ h => h.elim) (fun k hk => ⟨by have := HZ9.out; have := HZK.out; have := HZW.out; omega, fun e => by have := HVT.out k e.symm; have := HZK.out; have := HZW.out; omega, by have := HZ9.out; have := HZK.out; have := HZW.out; omega⟩) HRW.out.lists HSW.out.below HSW.out.below.size (by rw [List.length_map, hgl]; omega) ?_; intro lv1 wL hk1 hk2 hk3 hk4; rw [show (gs.map fun x => [x]) ++ [[Value.slice A6 (newX most zs ys).length c6]] = (gs ++ [Value.slice A6 (newX most zs ys).length c6]).map fun x => [x] by rw [List.map_append]; rfl] at hk1; have HRL := Lib.hid (HRW.out.addL hk1 hk3 hk4); have hxk := FBs_grow HXW.out hk3 hk4 (ok' := fun k => Pm w1.heap.size w3.heap.size v6 k ∧ LX kv1 wv1 lv1 (Q ++ Qn) (gs ++ [Value.slice A6 (newX most zs ys).length c6]) k) (fun k hk => hk.2.2.2.1) (fun k hk hn => ⟨hk.1, hk.2.1, hk.2.2.1, hn, hk.2.2.2.2⟩); have HXL := Lib.hid hxk; have HSL := Lib.hid (HSW.out.grow HRW.out.lists (by decide) hk3 hk2 (hxk.mono fun k hk => hk.1)); clear hk1 hk2 hk3 hk4 hxk))
            clear HRK HXK HSK HFWK HRW HXW HSW HR9 HX9 HS9 HG9 HFW9
            have hNk := NO_N ⟨Q ++ Qn, HFST.out, HRL.out.kept, HRL.out.dat⟩
            obtain ⟨Ak, ck, rfl, _⟩ := Kd.N_reads hNk
            obtain ⟨Aw, cw', rfl, _⟩ := Kd.N_reads HRL.out.want
            have HSF := Lib.hid (fun (d1 d2 : Nat) => sameFrames_any (w := wL) (c := d1) (d := d2) (fs := framesX most zs') rfl (Kd.F_mono (Kd.F_bound (Kd.N_F hNk)) fun k hk => hk.2) (Kd.F_mono (Kd.F_bound (Kd.N_F HRL.out.want)) fun k hk => hk.2) (by have h1 := HLN.out; have h2 := congrArg List.length HFX.out; rw [List.length_append] at h2; omega))
            clear hNk
            refine (HSF.out ck cw').mono ?_
            rintro e wS ⟨rfl, hbS⟩
            have HBS := Lib.hid hbS
            clear hbS HSF
            go_wp2_with fail
            go_roundw
            case rel => exact ⟨j + 1, zs', v6, b6, M', n', c', Q ++ Qn, gs ++ [.slice A6 (newX most zs ys).length c6], by go_num, by omega, Lib.hid (HSL.out.next HBS.out), Lib.hid (HRL.out.below HBS.out), HFST, by simp; omega, Lib.hid (HXL.out.below HBS.out)⟩
            case measure => simp [intOf]; omega
      · have hd1 : decide ((j : Int) < ps.length) = false := by simp; omega
        have hjm : j ≤ 100000000 := by omega
        obtain ⟨AL, cL, Lb, AK, cK, Kb, gA, gn, gc, gb, dA, dc, db, rfl, hAL, rfl, hAK, hT⟩ := HM.out.tail
        obtain ⟨dn, hdn⟩ : ∃ dn, dn = fun k => (Q.map fun q => q.1.f1.length).getD k 0 := ⟨_, rfl⟩
        rw [← hdn] at hT
        obtain ⟨m, hm⟩ : ∃ m, m = gs.length := ⟨_, rfl⟩
        obtain ⟨qn, hqn⟩ : ∃ qn, qn = Q.length := ⟨_, rfl⟩
        rw [← hm] at hAL hgl
        rw [← hqn] at hAK
        have HT := Lib.hid hT
        have HLs := Lib.hid (show Lsts wr w1.heap.size Lb m gA gn gc gb by rw [hm]; exact hT.ls)
        have HKp := Lib.hid (show Kpt wr w1.heap.size Kb qn dA dn dc db _ by rw [hqn]; exact hT.kp)
        have hqb : qn ≤ 100000000 := by
          have h1 := framesX_le most zs
          have h2 := congrArg List.length HQ.out
          rw [List.length_map] at h2
          have h3 := HS.out.len
          have h4 := totj_le ps j
          have h5 := HSZ.out
          omega
        have HDB := Lib.hid (show ∀ k, dn k ≤ 100000000 from fun k => by
          rw [hdn]
          refine pay_le HQ.out ?_ k
          have h3 := HS.out.len
          have h4 := totj_le ps j
          have h5 := HSZ.out
          omega)
        have HAL := Lib.hid hAL
        have HAK := Lib.hid hAK
        rw [← hm, ← hqn]
        have HMM := Lib.hid hm
        have HQQ := Lib.hid hqn
        have hmm1 : m ≤ 100000000 := by omega
        have HGL := Lib.hid hgl
        have HGK := Lib.hid (show ∀ t, t < m → 0 < gn t → 0 < qn → gb t ≠ Kb from fun t h1 h2 h3 => (hT.gt t (by omega) h2).2.1 (by omega))
        have HGD := Lib.hid (show ∀ t k, t < m → 0 < gn t → k < qn → dA k ≠ none → gb t ≠ db k from fun t k h1 h2 h3 h4 => hT.gd (by omega) h2 (by omega) h4)
        have HDL := Lib.hid (show ∀ k, k < qn → dA k ≠ none → 0 < m → db k ≠ Lb from fun k h1 h2 h3 => (hT.dt k (by omega) h2).2.1 (by omega))
        clear hT hdn hAL hAK hm hqn HM hd1 hgl
        have hd1 : decide ((j : Int) < ps.length) = false := by simp; omega
        go_wp2_with fail
        clear hd1
        go_loopw [154] (fun kk wt => ∃ k : Nat, kk = .int .i64 k ∧ k ≤ m ∧ Hid (Lsts wt w1.heap.size Lb m gA gn gc gb) ∧ Hid (∀ t i, t < k → i < gn t → wt.cell? ⟨gb t, i * 6 + 4, none⟩ = some (.int .u32 t)) ∧ Hid (Upd wr wt (fun x => ∃ t, t < m ∧ 0 < gn t ∧ x = gb t))) (fun kk _ => m - (intOf kk).toNat)
        case atStart => exact ⟨0, rfl, by omega, HLs, Lib.hid (fun t i h => absurd h (by omega)), Lib.hid (Upd.refl _ _)⟩
        case round =>
          obtain ⟨k, rfl, hk, HL, HD, HU1⟩ := hrel
          rename World => wt
          by_cases hlt1 : k < m
          · have hd2 : decide ((k : Int) < m) = true := by simp; omega
            have hk0 : (0 : Int) ≤ (k : Int) := by omega
            have hk1 : (k : Int) < (m : Int) := by omega
            obtain rfl := HAL.out (by omega)
            have hrow := HL.out.row k hlt1
            have hmax := HL.out.max k hlt1
            have hwu : IntKind.u32.wrap (k : Int) = k := by rw [IntKind.wrap_u32]; omega
            go_wp2_with fail
            go_loopw [161] (fun ii wt' => ∃ i : Nat, ii = .int .i64 i ∧ i ≤ gn k ∧ Hid (Lsts wt' w1.heap.size Lb m gA gn gc gb) ∧ Hid (∀ t i', t < k → i' < gn t → wt'.cell? ⟨gb t, i' * 6 + 4, none⟩ = some (.int .u32 t)) ∧ Hid (∀ i', i' < i → wt'.cell? ⟨gb k, i' * 6 + 4, none⟩ = some (.int .u32 k)) ∧ Hid (Upd wr wt' (fun x => ∃ t, t < m ∧ 0 < gn t ∧ x = gb t))) (fun ii _ => gn k - (intOf ii).toNat)
            case atStart => exact ⟨0, rfl, by omega, HL, HD, Lib.hid (fun i' h => absurd h (by omega)), HU1⟩
            case round =>
              clear HL HD HU1 hrow
              obtain ⟨i, rfl, hi, HL, HD, HE, HU1⟩ := hrel
              rename World => wt2
              by_cases hin : i < gn k
              · have hd3 : decide ((i : Int) < gn k) = true := by simp; omega
                have hi0 : (0 : Int) ≤ (i : Int) := by omega
                have hi1 : (i : Int) < (gn k : Int) := by omega
                obtain ⟨eA, eb, el, ene⟩ := HL.out.at_ k hlt1 (by omega)
                obtain ⟨hth, hfr⟩ := HL.out.there k i hlt1 hin
                obtain ⟨x0, hcell⟩ := Option.isSome_iff_exists.1 hth
                clear hth
                go_wp2_with fail
                go_roundw
                case rel =>
                  refine ⟨i + 1, by go_num, by omega, Lib.hid (HL.out.set hlt1 hin _), Lib.hid (fun t i' ht hi' => ?_), Lib.hid (fun i' hi' => ?_), Lib.hid (HU1.out.trans (Upd.set ⟨k, hlt1, by omega, rfl⟩ _))⟩
                  · rw [World.cell?_setCell_other _ _ _ _ (by have := HL.out.sep t k (by omega) hlt1 (by omega) (by omega) (by omega); first | (simp; done) | (simp; intro e; exact absurd e.symm this) | (simp; intro e; exact absurd e this))]
                    exact HD.out t i' ht hi'
                  · by_cases e : i' = i
                    · subst e; exact World.cell?_setCell_same _ _ _ hcell
                    · rw [World.cell?_setCell_other _ _ _ _ (by simp <;> omega)]; exact HE.out i' (by omega)
                case measure => simp [intOf]; omega
              · obtain rfl : i = gn k := by omega
                have hd3 : decide (((gn k : Nat) : Int) < gn k) = false := by simp
                go_wp2_with fail
                go_roundw
                case rel =>
                  refine ⟨k + 1, by go_num, by omega, HL, Lib.hid (fun t i' ht hi' => ?_), HU1⟩
                  by_cases e : t = k
                  · subst e; exact HE.out i' hi'
                  · exact HD.out t i' (by omega) hi'
                case measure => simp [intOf]; omega
          · obtain rfl : m = k := by omega
            have hd2 : decide (((m : Nat) : Int) < m) = false := by simp
            have HLt := Lib.hid HL.out
            have HDt := Lib.hid HD.out
            have HUt := Lib.hid (HU1.out.mono (S' := Sx m gn gb qn dA db) fun x hx => .inl hx)
            have HKt := Lib.hid ((HKp.out.upd HU1.out (fun h0 ⟨t, h1, h2, h3⟩ => HGK.out t h1 h2 h0 h3.symm) (fun k hk hd ⟨t, h1, h2, h3⟩ => HGD.out t k h1 h2 hk hd h3.symm)))
            clear HL HD HU1 HKp HLs
            go_wp2_with fail
            go_loopw [175] (fun kk wv => ∃ (k : Nat) (f : Nat → Nat → Int), kk = .int .i64 k ∧ k ≤ qn ∧ Hid (Kpt wv w1.heap.size Kb qn dA dn dc db f) ∧ Hid (∀ k' j', k' < k → j' < dn k' → f k' j' = (k' : Int) % 256) ∧ Hid (Lsts wv w1.heap.size Lb m gA gn gc gb) ∧ Hid (∀ t i, t < m → i < gn t → wv.cell? ⟨gb t, i * 6 + 4, none⟩ = some (.int .u32 t)) ∧ Hid (Upd wr wv (Sx m gn gb qn dA db))) (fun kk _ => qn - (intOf kk).toNat)
            case atStart => exact ⟨0, _, rfl, by omega, HKt, Lib.hid (fun k' j' h => absurd h (by omega)), HLt, HDt, HUt⟩
            case round =>
              clear HKt HLt HDt HUt
              obtain ⟨k, f, rfl, hk, HK, HF, HL, HD, HU1⟩ := hrel
              rename World => wv
              by_cases hlt1 : k < qn
              · have hd2 : decide ((k : Int) < qn) = true := by simp; omega
                have hk0 : (0 : Int) ≤ (k : Int) := by omega
                have hk1 : (k : Int) < (qn : Int) := by omega
                obtain rfl := HAK.out (by omega)
                have hrow := HK.out.row k hlt1
                have hmax := HK.out.mx hlt1
                go_wp2_with fail
                go_loopw [184] (fun ii wv' => ∃ (i : Nat) (f : Nat → Nat → Int), ii = .int .i64 i ∧ i ≤ dn k ∧ Hid (Kpt wv' w1.heap.size Kb qn dA dn dc db f) ∧ Hid (∀ k' j', k' < k → j' < dn k' → f k' j' = (k' : Int) % 256) ∧ Hid (∀ j', j' < i → f k j' = (k : Int) % 256) ∧ Hid (Lsts wv' w1.heap.size Lb m gA gn gc gb) ∧ Hid (∀ t i, t < m → i < gn t → wv'.cell? ⟨gb t, i * 6 + 4, none⟩ = some (.int .u32 t)) ∧ Hid (Upd wr wv' (Sx m gn gb qn dA db))) (fun ii _ => dn k - (intOf ii).toNat)
                case atStart => exact ⟨0, f, rfl, by omega, HK, HF, Lib.hid (fun j' h => absurd h (by omega)), HL, HD, HU1⟩
                case round =>
                  clear HK HF HL HD HU1 hrow
                  obtain ⟨i, f, rfl, hi, HK, HF, HE, HL, HD, HU1⟩ := hrel
                  rename World => wv2
                  have hrow := HK.out.row k hlt1
                  by_cases hin : i < dn k
                  · have hd3 : decide ((i : Int) < dn k) = true := by simp; omega
                    have hi0 : (0 : Int) ≤ (i : Int) := by omega
                    have hi1 : (i : Int) < (dn k : Int) := by omega
                    obtain ⟨eA, eb, el, ene, eC⟩ := HK.out.at_ hlt1 (by omega)
                    have hcell := eC.rd i hin
                    have hfr := (eC.there i (by have := eC.le; omega)).2
                    rw [Nat.zero_add] at hcell hfr
                    have HNE := Lib.hid (show dA k ≠ none by rw [eA]; simp)
                    clear eC
                    go_wp2_with fail
                    go_roundw
                    case rel =>
                      have hup : Upd wv2 (wv2.setCell ⟨db k, i, none⟩ (.int .u8 ((k : Int) % 256))) (fun x => x = db k) := Upd.set (S := fun x => x = db k) rfl _
                      refine ⟨i + 1, _, by go_num, by omega, Lib.hid (HK.out.set hlt1 hin ((k : Int) % 256)), Lib.hid (fun k' j' h1 h2 => ?_), Lib.hid (fun j' h1 => ?_), Lib.hid (HL.out.upd hup (fun h0 e => HDL.out k hlt1 HNE.out h0 e.symm) (fun t h1 h2 e => HGD.out t k h1 h2 hlt1 HNE.out e)), Lib.hid (fun t i' h1 h2 => hup.cell (fun e => HGD.out t k h1 (by omega) hlt1 HNE.out e) (HD.out t i' h1 h2)), Lib.hid (HU1.out.trans (Upd.set (.inr ⟨k, hlt1, HNE.out, rfl⟩) _))⟩
                      · show (if k' = k ∧ j' = i then _ else _) = _
                        rw [if_neg (by omega)]; exact HF.out k' j' h1 h2
                      · show (if k = k ∧ j' = i then _ else _) = _
                        by_cases e : j' = i
                        · rw [if_pos ⟨rfl, e⟩]
                        · rw [if_neg (by simp [e])]; exact HE.out j' (by omega)
                    case measure => simp [intOf]; omega
                  · obtain rfl : i = dn k := by omega
                    have hd3 : decide (((dn k : Nat) : Int) < dn k) = false := by simp
                    go_wp2_with fail
                    go_roundw
                    case rel =>
                      refine ⟨k + 1, f, by go_num, by omega, HK, Lib.hid (fun k' j' h1 h2 => ?_), HL, HD, HU1⟩
                      by_cases e : k' = k
                      · subst e; exact HE.out j' h2
                      · exact HF.out k' j' (by omega) h2
                    case measure => simp [intOf]; omega
              · obtain rfl : qn = k := by omega
                have hd2 : decide (((qn : Nat) : Int) < qn) = false := by simp
                have HKp := Lib.hid (HK.out.congr (g := pf) fun k' j' h1 h2 => HF.out k' j' h1 h2)
                clear HK HF
                have HSB := Lib.hid (show (∀ t, t < qn → dA t ≠ none → db t < wv.heap.size) ∧ (0 < qn → Kb < wv.heap.size) ∧ (∀ t, t < m → 0 < gn t → gb t < wv.heap.size) ∧ (0 < m → Lb < wv.heap.size) ∧ wr.heap.size ≤ wv.heap.size from ⟨fun t ht hn => (by
                  rcases HKp.out.form t ht with h1 | ⟨h1, h2, h3, h4, h5⟩
                  · exact absurd h1.1 hn
                  · exact h3), fun h0 => World.block_lt_of_cell? wv _ (HKp.out.row 0 h0), fun t ht hn => (HL.out.at_ t ht hn).2.2.1, fun h0 => World.block_lt_of_cell? wv _ (HL.out.row 0 h0), HU1.out.size⟩)
                have HR0 := Lib.hid (Kd.N_nil (Kd.raw 1) 38 wv wv.heap.size (fun q => wv.heap.size ≤ q))
                go_wp2_with fail
                go_loopw [27, 200] (fun rv kk wg => ∃ (k : Nat) (R : List Value), kk = .int .i64 k ∧ k ≤ qn ∧ R.length = k ∧ Hid (wv.heap.size ≤ wg.heap.size) ∧ Hid (Kpt wg w1.heap.size Kb qn dA dn dc db pf) ∧ Hid (Lsts wg w1.heap.size Lb m gA gn gc gb) ∧ Hid (∀ t i, t < m → i < gn t → wg.cell? ⟨gb t, i * 6 + 4, none⟩ = some (.int .u32 t)) ∧ Hid (Upd wr wg (Sx m gn gb qn dA db)) ∧ Hid (Kd.N (Kd.raw 1) 38 wg wv.heap.size (fun q => wv.heap.size ≤ q) rv (R.map fun x => [x])) ∧ Hid (∀ t, t < k → ∃ b o c, R[t]? = some (.slice (some ⟨b, o, none⟩) (dn t + 1) c) ∧ CR wg b o (dn t + 1) c (qg dn t) ∧ b < wg.heap.size ∧ some b ≠ rv.ownBlock ∧ (dA t ≠ none ∧ b = db t ∨ wv.heap.size ≤ b))) (fun _ kk _ => qn - (intOf kk).toNat)
                case atStart => exact ⟨0, [], rfl, by omega, rfl, Lib.hid (Nat.le_refl _), HKp, HL, HD, HU1, HR0, Lib.hid (fun t h => absurd h (by omega))⟩
                case round =>
                  clear HKp HL HD HU1 HR0
                  obtain ⟨k, R, rfl, hk, hRl, HZG, HK, HL, HD, HU1, HN, HRW⟩ := hrel
                  rename World => wg
                  have HRL := Lib.hid hRl
                  clear hRl
                  by_cases hlt1 : k < qn
                  · have hd2 : decide ((k : Int) < qn) = true := by simp; omega
                    have hk0 : (0 : Int) ≤ (k : Int) := by omega
                    have hk1 : (k : Int) < (qn : Int) := by omega
                    obtain rfl := HAK.out (by omega)
                    have hrow := HK.out.row k hlt1
                    have hmax := HK.out.mx hlt1
                    obtain ⟨bb, hbb, hno⟩ : ∃ bb, (dA k ≠ none → bb = db k) ∧ (dA k = none → wg.heap.size ≤ bb) := by
                      by_cases h : dA k = none
                      · exact ⟨wg.heap.size, fun h' => absurd h h', fun _ => Nat.le_refl _⟩
                      · exact ⟨db k, fun _ => rfl, fun h' => absurd h' h⟩
                    have HBB := Lib.hid hbb
                    have HNO := Lib.hid hno
                    clear hbb hno
                    have hdk := HDB.out k
                    go_wp2_with fail
                    go_loopw [29, 30] (fun gv ii wi => ∃ i : Nat, ii = .int .i64 i ∧ i ≤ 64 ∧ Hid (GR wg.heap.size wi gv (dn k + i) (fun j => if j < dn k then (k : Int) % 256 else 119) bb) ∧ Hid (Spr wg wi bb (dn k))) (fun _ ii _ => 64 - (intOf ii).toNat)
                    case atStart => exact ⟨0, rfl, by omega, Lib.hid ((HK.out.GR hlt1 HBB.out).congr fun j' h => by rw [if_pos h]; rfl), Lib.hid (Spr.refl _ _ _)⟩
                    case round =>
                      obtain ⟨i, rfl, hi, HGR, HSP⟩ := hrel
                      rename World => wi
                      by_cases hi64 : i < 64
                      · have hd3 : decide ((i : Int) < 64) = true := by simp; omega
                        go_wp2_with (at_builtin; go_loud (refine gr_append (W0 := wg) rfl _ _ rfl u29 (dn k + i) (dn k) bb (fun j => if j < dn k then (k : Int) % 256 else 119) 119 rfl rfl HGR.out HSP.out (by omega) (by show (if dn k + i < dn k then (k : Int) % 256 else 119) = 119; rw [if_neg (by omega)]) (by omega) (by omega) (by omega) ?_; intro gv1 wi1 hg1 hs1; have HG1 := Lib.hid hg1; have HS1 := Lib.hid hs1; clear hg1 hs1))
                        go_roundw
                        case rel => exact ⟨i + 1, by go_num, by omega, Lib.hid (by rw [← Nat.add_assoc]; exact HG1.out), HS1⟩
                        case measure => simp [intOf]; omega
                      · obtain rfl : i = 64 := by omega
                        have hd3 : decide (((64 : Nat) : Int) < 64) = false := by decide
                        have HKi := Lib.hid (HK.out.spr hlt1 HSP.out HBB.out HNO.out)
                        have hrow2 := HKi.out.row k hlt1
                        clear hrow HGR
                        have hwk : IntKind.i64.wrap ((k : Int) + 1) = k + 1 := by rw [IntKind.wrap_i64]; omega
                        have HRV := Lib.hid (show ∀ q, some q = u27.ownBlock → wv.heap.size ≤ q ∧ q < wg.heap.size from fun q e => ⟨HN.out.1 q e.symm, Kd.N_lt HN.out q e.symm⟩)
                        have HNB := Lib.hid (show ∀ q, wv.heap.size ≤ q → q < wg.heap.size → q ≠ bb from fun q h1 h2 e => by
                          by_cases h : dA k = none
                          · have := HNO.out h; omega
                          · have := HBB.out h; have := HSB.out.1 k hlt1 h; omega)
                        have HG0 := Lib.hid (GR.congr (g := qg dn k) (HKi.out.GR (B0 := wg.heap.size) hlt1 HBB.out) fun j' h => by unfold qg; rw [if_pos h]; rfl)
                        go_wp2_with (at_builtin; first | (refine gr_append (W0 := wg) rfl _ _ rfl (.slice (dA k) (dn k) (dc k)) (dn k) (dn k) bb (qg dn k) (((k : Int) + 1) % 256) rfl rfl HG0.out HSP.out (Nat.le_refl _) (by unfold qg; rw [if_neg (by omega)]) (by omega) (by omega) (by omega) ?_; intro v1 wx hg1 hs1; have hg2 : ∃ b1 o1 c1, v1 = .slice (some ⟨b1, o1, none⟩) (dn k + 1) c1 ∧ CR wx b1 o1 (dn k + 1) c1 (qg dn k) ∧ b1 < wx.heap.size ∧ (b1 = bb ∧ o1 = 0 ∨ wg.heap.size ≤ b1) := hg1.elim (fun h => absurd h.2 (by omega)) id; obtain ⟨b1, o1, c1, rfl, hC1, hl1, hw1⟩ := hg2; have HS1 := Lib.hid hs1; have HC1 := Lib.hid hC1; have HW1 := Lib.hid hw1; have HNx := Lib.hid (Kd.N_step HN.out (w1 := wx) fun q hq hl => hs1.block q hl (HNB.out q hq hl)); have hzx := hs1.size; clear hg1 hs1 hC1 hw1) | go_loud (refine Kd.N_append (P := Tryd.prog) (Kd.raw 1) (w0 := wx) (W := wx) wv.heap.size rfl _ _ 50 38 (.slice none 0 0) 24 rfl Tryd.underlying50 bytes_info rfl (by decide) (by omega) u27 (R.map fun x => [x]) [.slice (some ⟨b1, o1, none⟩) (dn k + 1) c1] [.slice (some ⟨b1, o1, none⟩) (dn k + 1) c1] (fun q => wv.heap.size ≤ q) (fun _ => False) rfl rfl (fun W' _ => ⟨rfl, rfl, fun u hu => by rw [List.mem_singleton.1 hu]; rfl⟩) (fun _ h => h.elim) (fun q hq => by have := HZG.out; omega) HNx.out (Below.refl _ _) (by have := HZG.out; omega) (by rw [List.length_map, HRL.out]; omega) ?_; intro rv1 wy hk1 hk2 hk3 hk4; have HK1 := Lib.hid hk1; have HK2 := Lib.hid hk2; have HK3 := Lib.hid hk3; have HK4 := Lib.hid hk4; clear hk1 hk2 hk3 hk4))
                        go_roundw
                        case rel =>
                          have hupx : Upd wg wx (fun q => q = db k ∧ dA k ≠ none) := Upd.of_spr HS1.out (fun h => by
                            by_cases h' : dA k = none
                            · have := HNO.out h'; omega
                            · exact ⟨HBB.out h', h'⟩)
                          have hupy : Upd wx wy (fun q => some q = u27.ownBlock) := Upd.of_grown HK2.out HK3.out
                          have hzy := HK3.out.size
                          have hzg := HZG.out
                          have hsb := HSB.out
                          refine ⟨k + 1, R ++ [.slice (some ⟨b1, o1, none⟩) (dn k + 1) c1], by go_num, by omega, by simp [HRL.out], Lib.hid (by omega), Lib.hid ((HK.out.spr hlt1 HS1.out HBB.out HNO.out).upd hupy (fun h0 e => ?_) (fun k' h1 h2 e => ?_)), Lib.hid ((HL.out.upd hupx (fun h0 e => HDL.out k hlt1 e.2 h0 e.1.symm) (fun t h1 h2 e => HGD.out t k h1 h2 hlt1 e.2 e.1)).upd hupy (fun h0 e => ?_) (fun t h1 h2 e => ?_)), Lib.hid (fun t i' h1 h2 => hupy.cell (fun e => ?_) (hupx.cell (fun e => HGD.out t k h1 (by omega) hlt1 e.2 e.1) (HD.out t i' h1 h2))), Lib.hid ((HU1.out.next hupx fun q _ e => .inr ⟨k, hlt1, e.2, e.1⟩).next hupy fun q hq e => ?_), Lib.hid (by rw [List.map_append]; exact HK1.out), Lib.hid (fun t ht => ?_)⟩
                          · have := HRV.out _ e; have := hsb.2.1 h0; omega
                          · have := HRV.out _ e; have := hsb.1 k' h1 h2; omega
                          · have := HRV.out _ e; have := hsb.2.2.2.1 h0; omega
                          · have := HRV.out _ e; have := hsb.2.2.1 t h1 h2; omega
                          · have := HRV.out _ e; have := hsb.2.2.1 t h1 (by omega); omega
                          · have := HRV.out _ e; omega
                          · by_cases et : t = k
                            · subst et
                              have hb1 : some b1 ≠ u27.ownBlock := fun e => by
                                have h1 := HRV.out _ e
                                rcases HW1.out with ⟨h2, _⟩ | h2
                                · exact HNB.out b1 h1.1 h1.2 h2
                                · omega
                              refine ⟨b1, o1, c1, by rw [List.getElem?_append_right (by rw [HRL.out]; exact Nat.le_refl _), HRL.out, Nat.sub_self]; rfl, HC1.out.upd hl1 hupy hb1, by omega, fun e => ?_, ?_⟩
                              · rcases HK4.out with h | ⟨b', h, hb'⟩
                                · exact hb1 (by rw [← h]; exact e)
                                · rw [h] at e
                                  have := Option.some.inj e
                                  omega
                              · rcases HW1.out with ⟨h2, _⟩ | h2
                                · by_cases h : dA t = none
                                  · have := HNO.out h; exact .inr (by omega)
                                  · exact .inl ⟨h, h2.trans (HBB.out h)⟩
                                · exact .inr (by omega)
                            · obtain ⟨b, o, c', r1, r2, r3, r4, r5⟩ := HRW.out t (by omega)
                              have hbb : b ≠ bb := fun e => by
                                by_cases h : dA k = none
                                · have := HNO.out h; omega
                                · have h6 := HBB.out h
                                  rcases r5 with ⟨h7, h8⟩ | h7
                                  · exact HK.out.sep t k (by omega) hlt1 et h7 h (h8.symm.trans (e.trans h6))
                                  · have := hsb.1 k hlt1 h; omega
                              refine ⟨b, o, c', by rw [List.getElem?_append_left (by rw [HRL.out]; omega)]; exact r1, (HS1.out.cr r2 r3 (fun e => absurd e hbb)).upd (by omega) hupy r4, by omega, fun e => ?_, r5⟩
                              rcases HK4.out with h | ⟨b', h, hb'⟩
                              · exact r4 (by rw [← h]; exact e)
                              · rw [h] at e
                                have := Option.some.inj e
                                omega
                        case measure => simp [intOf]; omega
                  · obtain rfl : qn = k := by omega
                    have hd2 : decide (((qn : Nat) : Int) < qn) = false := by simp
                    obtain ⟨AG, cG, Gb, eG, hGf, -, hGc⟩ := raw_cells HN.out
                    rw [List.length_map, HRL.out] at eG hGf
                    subst eG
                    have HGF := Lib.hid hGf
                    have HGC := Lib.hid hGc
                    clear hGf hGc HN
                    go_wp2_with fail
                    clear hd2
                    go_loopw [231] (fun kk wq => ∃ k : Nat, kk = .int .i64 k ∧ k ≤ qn ∧ Hid (Below wg.heap.size wg wq)) (fun kk _ => qn - (intOf kk).toNat)
                    case atStart => exact ⟨0, rfl, by omega, Lib.hid (Below.refl _ _)⟩
                    case round =>
                      obtain ⟨k, rfl, hk, HBq⟩ := hrel
                      rename World => wq
                      by_cases hltk : k < qn
                      · have hd2 : decide ((k : Int) < qn) = true := by simp; omega
                        have hk0 : (0 : Int) ≤ (k : Int) := by omega
                        have hk1 : (k : Int) < (qn : Int) := by omega
                        obtain rfl := HAK.out (by omega)
                        obtain rfl := (HGF.out (by omega)).1
                        have hdk := HDB.out k
                        have hrow := keepA HBq.out (HK.out.row k hltk)
                        go_wp2_with fail
                        go_loopw [240] (fun ii wq' => ∃ i : Nat, ii = .int .i64 i ∧ i ≤ dn k ∧ Hid (Below wg.heap.size wg wq')) (fun ii _ => dn k - (intOf ii).toNat)
                        case atStart => exact ⟨0, rfl, by omega, HBq⟩
                        case round =>
                          clear hrow HBq
                          obtain ⟨i, rfl, hi, HBq⟩ := hrel
                          rename World => wq2
                          have hrow := keepA HBq.out (HK.out.row k hltk)
                          by_cases hin : i < dn k
                          · have hd3 : decide ((i : Int) < dn k) = true := by simp; omega
                            have hi0 : (0 : Int) ≤ (i : Int) := by omega
                            have hi1 : (i : Int) < (dn k : Int) := by omega
                            obtain ⟨eA, eb, el, ene, eC⟩ := HK.out.at_ hltk (by omega)
                            have hcell := keepA HBq.out (eC.rd i hin)
                            rw [Nat.zero_add, show pf k i = (k : Int) % 256 from rfl] at hcell
                            clear eC
                            go_wp2_with fail
                            go_roundw
                            case rel => exact ⟨i + 1, by go_num, by omega, HBq⟩
                            case measure => simp [intOf]; omega
                          · obtain rfl : i = dn k := by omega
                            have hd3 : decide (((dn k : Nat) : Int) < dn k) = false := by simp
                            obtain ⟨b2, o2, c2, hr1, hr2, -, -, -⟩ := HRW.out k hltk
                            obtain ⟨-, hr3, -⟩ := HGC.out k [.slice (some ⟨b2, o2, none⟩) (dn k + 1) c2] (by rw [List.getElem?_map, hr1]; rfl)
                            have hg1 := keepA HBq.out (hr3 0 _ rfl)
                            rw [Nat.mul_one, Nat.add_zero] at hg1
                            have hcell := keepA HBq.out (hr2.rd (dn k) (by omega))
                            rw [show qg dn k (dn k) = ((k : Int) + 1) % 256 by unfold qg; rw [if_neg (by omega)]] at hcell
                            have hj0 : (0 : Int) ≤ (dn k : Int) := by omega
                            have hj1 : (dn k : Int) < ((dn k + 1 : Nat) : Int) := by omega
                            have hwk : IntKind.i64.wrap ((k : Int) + 1) = k + 1 := by rw [IntKind.wrap_i64]; omega
                            clear hr1 hr2 hr3
                            go_wp2_with fail
                            go_quiet (fail)
                            go_wp2_with fail
                            go_roundw
                            case rel => exact ⟨k + 1, by go_num, by omega, Lib.hid (below_drewN HBq.out _)⟩
                            case measure => simp [intOf]; omega
                      · obtain rfl : qn = k := by omega
                        have hd2 : decide (((qn : Nat) : Int) < qn) = false := by simp
                        go_wp2_with fail
                        clear hd2
                        go_loopw [274] (fun kk wz => ∃ k : Nat, kk = .int .i64 k ∧ k ≤ m ∧ Hid (Below wg.heap.size wg wz)) (fun kk _ => m - (intOf kk).toNat)
                        case atStart => exact ⟨0, rfl, by omega, HBq⟩
                        case round =>
                          clear HBq
                          obtain ⟨k, rfl, hk, HBq⟩ := hrel
                          rename World => wz
                          by_cases hltm : k < m
                          · have hd2 : decide ((k : Int) < m) = true := by simp; omega
                            have hk0 : (0 : Int) ≤ (k : Int) := by omega
                            have hk1 : (k : Int) < (m : Int) := by omega
                            obtain rfl := HAL.out (by omega)
                            have hrow := keepA HBq.out (HL.out.row k hltm)
                            have hmax := HL.out.max k hltm
                            have hwu : IntKind.u32.wrap (k : Int) = k := by rw [IntKind.wrap_u32]; omega
                            go_wp2_with fail
                            go_loopw [281] (fun ii wz' => ∃ i : Nat, ii = .int .i64 i ∧ i ≤ gn k ∧ Hid (Below wg.heap.size wg wz')) (fun ii _ => gn k - (intOf ii).toNat)
                            case atStart => exact ⟨0, rfl, by omega, HBq⟩
                            case round =>
                              clear hrow HBq
                              obtain ⟨i, rfl, hi, HBq⟩ := hrel
                              rename World => wz2
                              by_cases hin : i < gn k
                              · have hd3 : decide ((i : Int) < gn k) = true := by simp; omega
                                have hi0 : (0 : Int) ≤ (i : Int) := by omega
                                have hi1 : (i : Int) < (gn k : Int) := by omega
                                obtain ⟨eA, eb, el, ene⟩ := HL.out.at_ k hltm (by omega)
                                have hcell := keepA HBq.out (HD.out k i hltm hin)
                                go_wp2_with fail
                                go_roundw
                                case rel => exact ⟨i + 1, by go_num, by omega, HBq⟩
                                case measure => simp [intOf]; omega
                              · obtain rfl : i = gn k := by omega
                                have hd3 : decide (((gn k : Nat) : Int) < gn k) = false := by simp
                                go_wp2_with fail
                                go_roundw
                                case rel => exact ⟨k + 1, by go_num, by omega, HBq⟩
                                case measure => simp [intOf]; omega
                          · obtain rfl : m = k := by omega
                            have hd2 : decide (((m : Nat) : Int) < m) = false := by simp
                            have hT := HT.out
                            have hSg := HS.out.upd HU1.out (fun q hq => by
                              rcases hq with ⟨t, h1, h2, rfl⟩ | ⟨t, h1, h2, rfl⟩
                              · have h1' : t < gs.length := by have := HMM.out; omega
                                obtain ⟨a1, _, ⟨cs, a2⟩, _⟩ := hT.gt t h1' h2
                                exact ⟨(hT.ls.at_ t h1' h2).2.1, a1.1, a1.2.1, a1.2.2, cs, _, a2, by decide⟩
                              · have h1' : t < Q.length := by have := HQQ.out; omega
                                obtain ⟨a1, _, ⟨cs, a2⟩, _⟩ := hT.dt t h1' h2
                                refine ⟨?_, a1.1, a1.2.1, a1.2.2, cs, _, a2, by decide⟩
                                rcases hT.kp.form t h1' with h3 | h3
                                · exact absurd h3.1 h2
                                · exact h3.2.1) (HX.out.mono fun q hq => ⟨hq.1, fun e => by
                              rcases e with ⟨t, h1, h2, rfl⟩ | ⟨t, h1, h2, rfl⟩
                              · have h1' : t < gs.length := by have := HMM.out; omega
                                obtain ⟨_, _, _, x, hx, hx2⟩ := hT.gt t h1' h2
                                exact hq.2.2.2.2.2 x hx hx2.symm
                              · have h1' : t < Q.length := by have := HQQ.out; omega
                                obtain ⟨_, _, _, x, hx, hx2⟩ := hT.dt t h1' h2
                                exact hq.2.2.2.2.1 x hx hx2.symm⟩)
                            have HSz := Lib.hid (hSg.next HBq.out)
                            have HUz := Lib.hid (HU.out.next (belowT HB1.out HSz.out.below))
                            have HZX := Lib.hid HSz.out.fed.now.byt
                            have hzl : zs.length = nm := HSz.out.fed.now.len
                            have hz8 : zs.length ≤ 100000000 := by
                              have h3 := HS.out.len
                              have h4 := totj_le ps j
                              have h5 := HSZ.out
                              omega
                            have hn9 : nm ≤ 1000000000 := by omega
                            have hz10 : zs.length ≤ 1099511627776 := by omega
                            have x0 : wz.cell? ⟨w3.heap.size, 0, none⟩ = some (.int .i64 most) := cell_blk HSz.out.box rfl
                            have x1 : wz.cell? ⟨w3.heap.size, 1, none⟩ = some (.slice M nm cm) := cell_blk HSz.out.box rfl
                            clear hT hSg hzl hz8
                            go_wp2_with fail
                            refine start_ (n := 13) (S := fun w' => w'.cell? ⟨w3.heap.size, 0, none⟩ = some (.int .i64 most) ∧ w'.cell? ⟨w3.heap.size, 1, none⟩ = some (.slice M nm cm) ∧ Hid (Below wz.heap.size wz w')) (ds := []) #[false, false, false, false, false, false, false, false, false, false, false, false, false] (by kernel_rfl) rfl rfl (⟨x0, x1, Lib.hid (Below.refl _ _).drew⟩) (fun hHeld => ?_)
                            refine pure_ (i := 0) (N := some 295) (v := ?_) (a' := ?_) #[true, false, false, false, false, false, false, false, false, false, false, false, false] rfl rfl (by kernel_rfl) (fun _ _ _ h => h) (Or.inl ⟨by rfl, ?_⟩) ?_ ?_
                            rotate_left
                            · intro w'
                              go_simp
                              with_reducible rfl
                            rotate_left
                            · simp only [Act.put, List.setIfInBounds_toArray, List.set_cons_zero, List.set_cons_succ, i64_w, i32_w]
                              rfl
                            refine take_ (i := 2) (N := some 297) (v := ?_) (a' := ?_) #[true, false, true, false, false, false, false, false, false, false, false, false, false] rfl rfl (by kernel_rfl) (fun _ _ _ h => h) (Or.inl ⟨by rfl, ?_⟩) hHeld ?_ ?_
                            rotate_left
                            · rintro w' ⟨s0, s1, s2⟩
                              go_simp
                              with_reducible rfl
                            rotate_left
                            · simp only [Act.put, List.setIfInBounds_toArray, List.set_cons_zero, List.set_cons_succ, i64_w, i32_w]
                              rfl
                            refine one_ (i := 1) (N := some 296) #[true, true, true, false, false, false, false, false, false, false, false, false, false] rfl rfl (by kernel_rfl) (by decide) (fun K hK => ?_)
                            refine goes_ Tryd.func22 (by kernel_rfl) rfl #[.pointer (some ⟨w1.heap.size, 0, none⟩)] (by rfl) rfl rfl (by simp only [List.map_toArray, List.map_cons, List.map_nil]; rfl) ?_
                            with_reducible refine (held_dec (HSz.out.dec.below hHeld.2.2.out) HZX.out).mono ?_
                            rintro e wd ⟨rfl, rfl⟩
                            refine ⟨_, rfl, ?_⟩
                            refine hK.out _ _ (hHeld) (fun hHeld => ?_)
                            clear hK K
                            refine norm_ (a' := ?_) ?_ ?_
                            rotate_left
                            · show Act.put _ (some 296) _ = _
                              simp only [Act.put, List.setIfInBounds_toArray, List.set_cons_zero, List.set_cons_succ, i64_w, i32_w]
                              rfl
                            refine one_ (i := 3) (N := some 298) #[true, true, true, true, false, false, false, false, false, false, false, false, false] rfl rfl (by kernel_rfl) (by decide) (fun K hK => ?_)
                            refine goes_ Tryd.func35 (by kernel_rfl) rfl #[.agg #[.int .i64 most, .slice M nm cm]] (by rfl) rfl rfl (by simp only [List.map_toArray, List.map_cons, List.map_nil]; rfl) ?_
                            with_reducible refine (rheld_any most M nm cm zs (HSz.out.fed.below hHeld.2.2.out).now m1 m2 hn9).mono ?_
                            rintro e wd ⟨rfl, hbd⟩
                            refine ⟨_, rfl, ?_⟩
                            have HBD := Lib.hid hbd
                            clear hbd
                            refine hK.out _ _ (⟨keepA HBD.out hHeld.1, keepA HBD.out hHeld.2.1, Lib.hid (belowT hHeld.2.2.out HBD.out)⟩) (fun hHeld => ?_)
                            clear hK K
                            refine norm_ (a' := ?_) ?_ ?_
                            rotate_left
                            · show Act.put _ (some 298) _ = _
                              simp only [Act.put, List.setIfInBounds_toArray, List.set_cons_zero, List.set_cons_succ, i64_w, i32_w]
                              rfl
                            refine pure_ (i := 4) (N := some 299) (v := ?_) (a' := ?_) #[true, true, true, true, true, false, false, false, false, false, false, false, false] rfl rfl (by kernel_rfl) (fun _ _ _ h => h) (Or.inl ⟨by rfl, ?_⟩) ?_ ?_
                            rotate_left
                            · intro w'
                              go_simp
                              with_reducible rfl
                            rotate_left
                            · simp only [Act.put, List.setIfInBounds_toArray, List.set_cons_zero, List.set_cons_succ, i64_w, i32_w]
                              rfl
                            refine pure_ (i := 5) (N := some 300) (v := ?_) (a' := ?_) #[true, true, true, true, true, true, false, false, false, false, false, false, false] rfl rfl (by kernel_rfl) (fun _ _ _ h => h) (Or.inl ⟨by rfl, ?_⟩) ?_ ?_
                            rotate_left
                            · intro w'
                              go_simp
                              with_reducible rfl
                            rotate_left
                            · simp only [Act.put, List.setIfInBounds_toArray, List.set_cons_zero, List.set_cons_succ, i64_w, i32_w]
                              rfl
                            refine pure_ (i := 6) (N := some 301) (v := ?_) (a' := ?_) #[true, true, true, true, true, true, true, false, false, false, false, false, false] rfl rfl (by kernel_rfl) (fun _ _ _ h => h) (Or.inl ⟨by rfl, ?_⟩) ?_ ?_
                            rotate_left
                            · intro w'
                              go_simp
                              with_reducible rfl
                            rotate_left
                            · simp only [Act.put, List.setIfInBounds_toArray, List.set_cons_zero, List.set_cons_succ, i64_w, i32_w]
                              rfl
                            refine take_ (i := 8) (N := some 303) (v := ?_) (a' := ?_) #[true, true, true, true, true, true, true, false, true, false, false, false, false] rfl rfl (by kernel_rfl) (fun _ _ _ h => h) (Or.inl ⟨by rfl, ?_⟩) hHeld ?_ ?_
                            rotate_left
                            · rintro w' ⟨s0, s1, s2⟩
                              go_simp
                              with_reducible rfl
                            rotate_left
                            · simp only [Act.put, List.setIfInBounds_toArray, List.set_cons_zero, List.set_cons_succ, i64_w, i32_w]
                              rfl
                            refine one_ (i := 7) (N := some 302) #[true, true, true, true, true, true, true, true, true, false, false, false, false] rfl rfl (by kernel_rfl) (by decide) (fun K hK => ?_)
                            refine goes_ Tryd.func23 (by kernel_rfl) rfl #[.pointer (some ⟨w1.heap.size, 0, none⟩)] (by rfl) rfl rfl (by simp only [List.map_toArray, List.map_cons, List.map_nil]; rfl) ?_
                            with_reducible refine (wants_dec (HUz.out.at_ hHeld.2.2.out).good (HSz.out.dec.below hHeld.2.2.out) HZX.out hz10).mono ?_
                            rintro e wd ⟨rfl, hbd⟩
                            refine ⟨_, rfl, ?_⟩
                            have HBD := Lib.hid hbd
                            clear hbd
                            refine hK.out _ _ (⟨keepA HBD.out hHeld.1, keepA HBD.out hHeld.2.1, Lib.hid (belowT hHeld.2.2.out HBD.out)⟩) (fun hHeld => ?_)
                            clear hK K
                            refine norm_ (a' := ?_) ?_ ?_
                            rotate_left
                            · show Act.put _ (some 302) _ = _
                              simp only [Act.put, List.setIfInBounds_toArray, List.set_cons_zero, List.set_cons_succ, i64_w, i32_w]
                              rfl
                            refine one_ (i := 9) (N := some 304) #[true, true, true, true, true, true, true, true, true, true, false, false, false] rfl rfl (by kernel_rfl) (by decide) (fun K hK => ?_)
                            refine goes_ Tryd.func36 (by kernel_rfl) rfl #[.agg #[.int .i64 most, .slice M nm cm]] (by rfl) rfl rfl (by simp only [List.map_toArray, List.map_cons, List.map_nil]; rfl) ?_
                            with_reducible refine (rwants_any most M nm cm zs (HSz.out.fed.below hHeld.2.2.out).now m1 m2 hn9).mono ?_
                            rintro e wd ⟨rfl, hbd⟩
                            refine ⟨_, rfl, ?_⟩
                            have HBD := Lib.hid hbd
                            clear hbd
                            refine hK.out _ _ (⟨keepA HBD.out hHeld.1, keepA HBD.out hHeld.2.1, Lib.hid (belowT hHeld.2.2.out HBD.out)⟩) (fun hHeld => ?_)
                            clear hK K
                            refine norm_ (a' := ?_) ?_ ?_
                            rotate_left
                            · show Act.put _ (some 304) _ = _
                              simp only [Act.put, List.setIfInBounds_toArray, List.set_cons_zero, List.set_cons_succ, i64_w, i32_w]
                              rfl
                            refine pure_ (i := 10) (N := some 305) (v := ?_) (a' := ?_) #[true, true, true, true, true, true, true, true, true, true, true, false, false] rfl rfl (by kernel_rfl) (fun _ _ _ h => h) (Or.inl ⟨by rfl, ?_⟩) ?_ ?_
                            rotate_left
                            · intro w'
                              go_simp
                              with_reducible rfl
                            rotate_left
                            · simp only [Act.put, List.setIfInBounds_toArray, List.set_cons_zero, List.set_cons_succ, i64_w, i32_w]
                              rfl
                            refine pure_ (i := 11) (N := some 306) (v := ?_) (a' := ?_) #[true, true, true, true, true, true, true, true, true, true, true, true, false] rfl rfl (by kernel_rfl) (fun _ _ _ h => h) (Or.inl ⟨by rfl, ?_⟩) ?_ ?_
                            rotate_left
                            · intro w'
                              go_simp
                              with_reducible rfl
                            rotate_left
                            · simp only [Act.put, List.setIfInBounds_toArray, List.set_cons_zero, List.set_cons_succ, i64_w, i32_w]
                              rfl
                            refine pure_ (i := 12) (N := some 4) (v := ?_) (a' := ?_) #[true, true, true, true, true, true, true, true, true, true, true, true, true] rfl rfl (by kernel_rfl) (fun _ _ _ h => h) (Or.inl ⟨by rfl, ?_⟩) ?_ ?_
                            rotate_left
                            · intro w'
                              go_simp
                              with_reducible rfl
                            rotate_left
                            · simp only [Act.put, List.setIfInBounds_toArray, List.set_cons_zero, List.set_cons_succ, i64_w, i32_w]
                              rfl
                            refine done_ (by kernel_rfl) ?_
                            have HBe := Lib.hid (belowT (belowT HB1.out HSz.out.below) hHeld.2.2.out)
                            clear hHeld
                            go_wp2_with fail
                            go_ret
                            first | exact ⟨rfl, HBe.out⟩ | (refine ⟨?_, HBe.out⟩; simp)
end Go.Proofs.YtfddhipdedcacaaDoor
