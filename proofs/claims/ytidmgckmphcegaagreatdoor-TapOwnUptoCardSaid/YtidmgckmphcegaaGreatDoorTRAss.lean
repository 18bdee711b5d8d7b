/-
 culvertref26.Assemble.
-/
import Derived.Test.YtidmgckmphcegaaGreatDoorTRPar
import Derived.Test.YtidmgckmphcegaaGreatDoorTRBs
import Derived.Test.YtidmgckmphcegaaGreatDoorRBts
import Derived.Test.YtidmgckmphcegaaGreatDoorMK
namespace Go.Proofs.YtidmgckmphcegaaGreatDoor
open Go Go.RowKit Go.Proofs.YtidmgckmphcegaaGreatDoorW.PrintWords Go.Proofs.YtidmgckmphcegaaGreatDoorW.PrintLast Go.Proofs.YtidmgckmphcegaaGreatDoorW.PrintMore Go.Proofs.YtidmgckmphcegaaGreatDoor.Px Go.Proofs.YtidmgckmphcegaaGreatDoor.PTapAssembles
set_option linter.unusedVariables false
set_option linter.unusedSimpArgs false
def RAsmTo (l : List UInt8) (w : World) (e : Ending) (w' : World) : Prop :=
 Below w.heap.size w w' ∧ match gasm l with
 | .error k => e = .returned (.tuple #[.slice none 0 0, .int .i64 k])
 | .ok b => ∃ v, e = .returned (.tuple #[v, .int .i64 0]) ∧ Own w' w.heap.size v b
structure RALoop (w wr : World) (ls : List ByteArray) (k : Nat) (v : Value) (out : List Int) : Prop where
 own : Own wr w.heap.size v out
 byt : ∀ x ∈ out, 0 ≤ x ∧ x ≤ 255
 go : gasmL (lsw ls) [] = gasmL ((lsw ls).drop k) out
 bel : Below w.heap.size w wr
 len : out.length ≤ 12 * k + sumL ((lsw ls).take k)
theorem RALoop.step {w wr w' : World} {k : Nat} {ls : List ByteArray} {v v' : Value} {out b : List Int} {x : ByteArray} (h : RALoop w wr ls k v out) (hx : ls[k]? = some x) (hg : gline x.data.toList = .ok b) (ho : Own w' w.heap.size v' (out ++ b)) (hb : Below w.heap.size w w') : RALoop w w' ls (k + 1) v' (out ++ b) := by
 have hx' : (lsw ls)[k]? = some x.data.toList := by
  unfold lsw; rw [List.getElem?_map, hx]; rfl
 refine ⟨ho, ?_, ?_, hb, ?_⟩
 · intro y hy
   rcases List.mem_append.1 hy with hy | hy
   · exact h.byt y hy
   · exact gline_bytes hg y hy
 · rw [h.go, lsw_drop hx, gasmL, hg]
 · have h1 := h.len
   have h2 := gline_len hg
   rw [List.length_append, sumL_take (lsw ls) k _ hx']
   omega
theorem size_line {text : ByteArray} {r : List ByteArray} (hs : text.size < 4294967281) (hrl : lsw r = spl 10 text.data.toList) {x : ByteArray} (hx : x ∈ r) : x.size < 4294967281 := by
 have h1 := spl_len 10 text.data.toList x.data.toList (by rw [← hrl]; exact List.mem_map_of_mem (f := fun y : ByteArray => y.data.toList) hx)
 have h2 : x.data.toList.length = x.size := by simp
 have h3 : text.data.toList.length = text.size := by simp
 omega
theorem count_lines {text : ByteArray} {r : List ByteArray} (hs : text.size < 4294967281) (hrl : lsw r = spl 10 text.data.toList) : r.length ≤ 4294967295 := by
 have h1 := spl_count 10 text.data.toList
 rw [← hrl, lsw_len] at h1
 have h3 : text.data.toList.length = text.size := by simp
 omega
theorem lt_8 {n : Nat} (h : n < 4294967281) : n < 8796093022208 := by omega
theorem gl_none {l : List UInt8} (h : firstW l = none) : gline l = .ok [] := by rw [← line_eq]; unfold rline; rw [h]
theorem gl_hash {l w : List UInt8} (h : firstW l = some w) (h35 : w.headD 0 = 35) : gline l = .ok [] := by rw [← line_eq]; unfold rline; rw [h]; simp only [h35, if_true]
theorem gl_two {l w : List UInt8} (h : firstW l = some w) (h35 : w.headD 0 ≠ 35) (hw : w = wBytes) (hs : (spl 32 l).headD [] = wBytes) (hn : (spl 32 l).length ≠ 2) : gline l = .error 41 := by
 rw [← line_eq]; unfold rline; rw [h]
 simp only [h35, if_false, hs, and_true, hn, ne_eq, not_false_iff, if_true]
 rw [if_pos hw]
theorem gl_read {l w : List UInt8} (h : firstW l = some w) (h35 : w.headD 0 ≠ 35) (hw : w = wBytes) (hs : (spl 32 l).headD [] = wBytes) (hn : (spl 32 l).length = 2) : gline l = match read ((spl 32 l).getD 1 []) with | none => .error 41 | some d => .ok d := by
 rw [← line_eq]; unfold rline; rw [h]
 simp only [h35, if_false, hs, and_true, hn, ne_eq, not_true_eq_false]
 rw [if_pos hw]
 rfl
theorem gl_bytes {l w : List UInt8} (h : firstW l = some w) (h35 : w.headD 0 ≠ 35) (hw : w = wBytes) (hs : (spl 32 l).headD [] ≠ wBytes) : gline l = .error 41 := by
 rw [← line_eq]; unfold rline; rw [h]
 simp only [h35, if_false, hs, and_false]
 rw [if_pos hw]
theorem gl_parse {l w : List UInt8} (h : firstW l = some w) (h35 : w.headD 0 ≠ 35) (hw : w ≠ wBytes) : gline l = match rparse l with | .error e => .error e | .ok (h, d) => .ok (encH h d) := by
 rw [← line_eq]; unfold rline; rw [h]
 simp only [h35, if_false, hw, false_and]
 rfl
theorem RALoop.err {w wr : World} {k : Nat} {ls : List ByteArray} {v : Value} {out : List Int} {x text : ByteArray} {e : Nat} (h : RALoop w wr ls k v out) (hl : lsw ls = spl 10 text.data.toList) (hx : ls[k]? = some x) (hg : gline x.data.toList = .error e) : gasm text.data.toList = .error e := by
 unfold gasm
 rw [← hl, h.go, lsw_drop hx, gasmL, hg]
theorem RALoop.fits {w wr : World} {k : Nat} {ls : List ByteArray} {v : Value} {out b : List Int} {x text : ByteArray} (h : RALoop w wr ls k v out) (hl : lsw ls = spl 10 text.data.toList) (hs : text.size < 4294967281) (hx : ls[k]? = some x) (hg : gline x.data.toList = .ok b) : out.length + b.length ≤ 140737488355328 := by
 have hx' : (lsw ls)[k]? = some x.data.toList := by
  unfold lsw; rw [List.getElem?_map, hx]; rfl
 have h1 := h.len
 have h2 := gline_len hg
 have h3 := sumL_take (lsw ls) k _ hx'
 have h4 := sumL_le (lsw ls) (k + 1)
 have h5 := spl_sum 10 text.data.toList
 have h6 := count_lines hs hl
 have h7 : text.data.toList.length = text.size := by simp
 have h8 : k < ls.length := (List.getElem?_eq_some_iff.1 hx).1
 rw [← hl] at h5
 omega
theorem RALoop.all {w wr : World} {ls : List ByteArray} {v : Value} {out : List Int} {text : ByteArray} (h : RALoop w wr ls ls.length v out) (hl : lsw ls = spl 10 text.data.toList) : gasm text.data.toList = .ok out := by
 unfold gasm
 rw [← hl, h.go, ← lsw_len ls, List.drop_length, gasmL]
theorem rp_frame {l : List UInt8} {h : Hd} {d : List Int} (e : rparse l = .ok (h, d)) : ((d.length : Nat) : Int) = szF h.ty h.ln := by
 obtain ⟨_, _, _, h1, h2⟩ := rparse_ok e
 unfold szF
 by_cases h0 : h.ty = 0
 · rw [if_pos (by rw [h0]; rfl), h1 h0]
 · rw [if_neg (by omega), h2 h0]; rfl
theorem nz_ne {k : Nat} (h : k ≠ 0) : ((k : Int) != 0) = true := by simp [h]
theorem rp_err {l : List UInt8} {k : Nat} (e : rparse l = .error k) : k ≠ 0 := by
 rw [parse_eq] at e
 rcases gparse_err e with rfl | rfl | rfl <;> decide
theorem okI {h : Hd} (o : h.Ok) : (h.ver : Int) ≤ 255 ∧ (h.ty : Int) ≤ 255 ∧ (h.fl : Int) ≤ 65535 ∧ (h.st : Int) ≤ 4294967295 ∧ (h.ln : Int) ≤ 4294967295 := by
 have o0 := o.ver
 have o1 := o.ty
 have o2 := o.fl
 have o3 := o.st
 have o4 := o.ln
 omega
set_option maxRecDepth 100000 in
set_option maxHeartbeats 8000000 in
theorem rasm_any (text : ByteArray) (hs : text.size < 4294967281) (w : World) :
    Calls Tryz.prog 23 #[.string text] w (RAsmTo text.data.toList w) := by
 obtain ⟨r, hr, hrl⟩ := lines_f text (by omega)
 have hrl' : lsw r = spl 10 text.data.toList := hrl
 have hrn := count_lines hs hrl'
 have HR := Lib.hid hr
 have HRL := Lib.hid hrl'
 have HS := Lib.hid hs
 clear hr hrl hrl' hs
 go_enter Tryz.func23, Tryz.ntmps23
 go_wp2_with fail
 refine (culvertref25_Lines.calls _ text r _ HR.out).mono ?_
 rintro e w1 ⟨v0, rfl, hR, hb1⟩
 obtain ⟨A, c, rfl, hWD⟩ := RdW.of hR
 have hA0 : RALoop w1 w1 r 0 (.slice none 0 0) [] := ⟨World.ownsRow_nil _ _ _ _, by simp, rfl, Below.refl _ _, by simp⟩
 have HA0 := Lib.hid hA0
 have HWD := Lib.hid hWD
 have HB1 := Lib.hid hb1
 clear hR hb1 hWD hA0
 go_wp2_with fail
 go_loopw [4, 6] (fun v i wr => ∃ (k : Nat) (out : List Int), k ≤ r.length ∧ i = .int .i64 k ∧ Hid (RALoop w1 wr r k v out)) (fun _ i _ => r.length - (intOf i).toNat)
 case atStart => exact ⟨0, [], by omega, rfl, HA0.out⟩
 case round =>
  obtain ⟨k, out, hk, rfl, HR⟩ := hrel
  by_cases hlt : k < r.length
  · have hlt' : (k : Int) < r.length := by omega
    obtain ⟨x, hx⟩ : ∃ x, r[k]? = some x := ⟨_, List.getElem?_eq_getElem hlt⟩
    obtain ⟨ad, rfl, hcell⟩ := (HWD.out.next HR.out.bel).rd k x hx
    have hcap := HWD.out.cap
    have hxs := size_line HS.out HRL.out (List.mem_of_getElem? hx)
    obtain ⟨ws, hws, hhd⟩ := words_f x (lt_8 hxs)
    have HWS := Lib.hid hws
    have HHD := Lib.hid hhd
    have HXS := Lib.hid hxs
    have HX := Lib.hid hx
    have HCELL := Lib.hid hcell
    clear hx hws hhd hxs
    go_wp2_with fail
    refine (culvertref25_Words.calls _ x ws _ HWS.out).mono ?_
    rintro e w2 ⟨v7, rfl, hR7, hb2⟩
    obtain ⟨A7, c7, rfl, hW7⟩ := RdW.of hR7
    have HB2 := Lib.hid (belowT HR.out.bel hb2)
    have HW7 := Lib.hid hW7
    have HO2 := Lib.hid (HR.out.own.next hb2)
    have hcell2 := keepA hb2 HCELL.out
    clear hR7 hb2 hW7 hcell
    cases ws with
    | nil =>
      have HN := Lib.hid (show gline x.data.toList = .ok [] from gl_none (by rw [← HHD.out]; rfl))
      go_wp2_with fail
      go_roundw
      case rel => exact ⟨k + 1, out, by omega, by go_num, by have := HR.out.step (b := []) HX.out HN.out (by rw [List.append_nil]; exact HO2.out) HB2.out; rw [List.append_nil] at this; exact Lib.hid this⟩
      case measure => simp [intOf]; omega
    | cons wd wr' =>
      have hf : firstW x.data.toList = some wd.data.toList := by rw [← HHD.out]; rfl
      have hne : wd.data.toList ≠ [] := firstW_ne hf
      obtain ⟨ad7, rfl, hc7⟩ := HW7.out.rd 0 wd rfl
      obtain ⟨c0, t0, hct⟩ : ∃ c0 t0, wd.data.toList = c0 :: t0 := by
       cases e : wd.data.toList with
       | nil => exact absurd e hne
       | cons c0 t0 => exact ⟨c0, t0, rfl⟩
      have hws1 : (((wd :: wr').length : Nat) : Int) = (wr'.length : Int) + 1 := by rw [List.length_cons, Int.natCast_add]; rfl
      have HF := Lib.hid hf
      have HCT := Lib.hid hct
      clear hf hne hct
      have hz7 : ((wr'.length : Int) + 1 == 0) = false := by rw [beq_eq_false_iff_ne]; omega
      have h07 : (0 : Int) < (wr'.length : Int) + 1 := by omega
      have hc70 : w2.cell? ad7 = some (.string wd) := by
       have e : ad7.add 0 = ad7 := by simp [Addr.add]
       rw [e] at hc7; exact hc7
      have hwz : 0 < wd.size := by
       have h2 : wd.data.toList.length = wd.size := by simp
       rw [HCT.out] at h2
       rw [← h2]; simp
      have hwi : (0 : Int) < (wd.size : Int) := Int.ofNat_lt.2 hwz
      clear hc7
      have hw0 : wd[0] = c0 := by
       have h1 : wd.data.toList[0]? = some c0 := by rw [HCT.out]; rfl
       have h2 : wd.data.toList[0]? = some wd[0] := by
        rw [List.getElem?_eq_getElem (by simpa using hwz)]
        simp [ByteArray.getElem_eq_getElem_data]
       exact Option.some.inj (h2.symm.trans h1)
      by_cases h35 : c0 = 35
      · have hq : ((wd[0].toNat : Int) == 35) = true := by rw [hw0, h35]; rfl
        have HN := Lib.hid (show gline x.data.toList = .ok [] from gl_hash HF.out (by rw [HCT.out]; exact h35))
        clear hw0 h35
        go_wp2_with fail
        go_roundw
        case rel => exact ⟨k + 1, out, by omega, by go_num, by have := HR.out.step (b := []) HX.out HN.out (by rw [List.append_nil]; exact HO2.out) HB2.out; rw [List.append_nil] at this; exact Lib.hid this⟩
        case measure => simp [intOf]; omega
      · have hq : ((wd[0].toNat : Int) == 35) = false := by
          rw [hw0, beq_eq_false_iff_ne]
          intro e
          exact h35 (UInt8.toNat.inj (by have e9 : (((35 : UInt8).toNat : Nat) : Int) = 35 := rfl; omega))
        have H35 := Lib.hid (show wd.data.toList.headD 0 ≠ 35 by rw [HCT.out]; exact h35)
        clear hw0 h35
        obtain ⟨ps, hps, hpl⟩ := split_f x (lt_8 HXS.out)
        have HPL := Lib.hid (show lsw ps = spl 32 x.data.toList from hpl)
        have HPS := Lib.hid hps
        obtain ⟨p0, pr, rfl⟩ : ∃ p0 pr, ps = p0 :: pr := by
         cases ps with
         | nil => exact absurd hpl.symm (spl_ne 32 _)
         | cons p0 pr => exact ⟨p0, pr, rfl⟩
        clear hps hpl
        go_wp2_with fail
        refine (culvertref26_split.calls _ x (p0 :: pr) _ HPS.out).mono ?_
        rintro e w3 ⟨v8, rfl, hR8, hb3⟩
        obtain ⟨A8, c8, rfl, hW8⟩ := RdW.of hR8
        obtain ⟨ad8, rfl, hc8⟩ := hW8.rd 0 p0 rfl
        have hc80 : w3.cell? ad8 = some (.string p0) := by
         have e : ad8.add 0 = ad8 := by simp [Addr.add]
         rw [e] at hc8; exact hc8
        have hc73 := keepA hb3 hc70
        have hcell3 := keepA hb3 hcell2
        have HW8 := Lib.hid hW8
        have HB3 := Lib.hid (belowT HB2.out hb3)
        have HO3 := Lib.hid (HO2.out.next hb3)
        have hps1 : (((p0 :: pr).length : Nat) : Int) = (pr.length : Int) + 1 := by rw [List.length_cons, Int.natCast_add]; rfl
        have h08 : (0 : Int) < (pr.length : Int) + 1 := by omega
        clear hR8 hb3 hW8 hc8 hc70 hcell2
        by_cases hwb : wd.data.toList = wBytes
        · have hw1 : (wd.toList == [98, 121, 116, 101, 115]) = true := by rw [Lib.toList_data, hwb]; rfl
          by_cases hpb : p0.data.toList = wBytes
          · have hp1 : (p0.toList == [98, 121, 116, 101, 115]) = true := by rw [Lib.toList_data, hpb]; rfl
            by_cases hn : pr.length = 1
            · have hn1 : ((pr.length : Int) + 1 == 2) = true := by rw [hn]; rfl
              have h18 : (1 : Int) < (pr.length : Int) + 1 := by omega
              obtain ⟨p1, hp1'⟩ : ∃ p1, pr = [p1] := by
               match pr, hn with
               | [p1], _ => exact ⟨p1, rfl⟩
              obtain ⟨ad8', hadq, hc81⟩ := HW8.out.rd 1 p1 (by rw [hp1']; rfl)
              obtain rfl : ad8 = ad8' := Option.some.inj hadq
              have hsz1 : p1.size < 140737488355328 := by
               have h1 := spl_len 32 x.data.toList p1.data.toList (by rw [← HPL.out, hp1']; simp [lsw])
               have h2 : p1.data.toList.length = p1.size := by simp
               have h3 : x.data.toList.length = x.size := by simp
               have h4 := HXS.out
               omega
              have HRF := Lib.hid (read_f p1 hsz1)
              have HG := Lib.hid (gl_read HF.out H35.out hwb (by rw [← HPL.out]; exact hpb) (by rw [← HPL.out, hp1']; rfl))
              have HG1 := Lib.hid (show (spl 32 x.data.toList).getD 1 [] = p1.data.toList by rw [← HPL.out, hp1']; rfl)
              clear hwb hpb hsz1 hadq hp1' hn
              go_upto_region 12 with fail
              obtain ⟨blk8, off8, el8⟩ := ad8
              have hc81' : w3.cell? ⟨blk8, off8 + 1, none⟩ = some (.string p1) := hc81
              clear hc81
              go_wp2_with fail
              cases hrd : read p1.data.toList with
              | none =>
                have hf : culvertref25_Read.f (2 * p1.size + 20) p1 = some ([], 41) := by rw [HRF.out, hrd]; rfl
                have HE := Lib.hid (HR.out.err HRL.out HX.out (by rw [HG.out, HG1.out, hrd]))
                refine (culvertref25_Read.calls _ p1 [] 41 _ hf).mono ?_
                rintro e w4 ⟨v9, rfl, hR9, hb4⟩
                have HB4 := Lib.hid (belowT HB3.out hb4)
                clear hR9 hb4 hf hrd
                go_wp2_with fail
                go_ret2
                refine ⟨belowT HB1.out HB4.out, ?_⟩
                rw [HE.out]
                rfl
              | some d =>
                have hf : culvertref25_Read.f (2 * p1.size + 20) p1 = some (d, 0) := by rw [HRF.out, hrd]; rfl
                have HGD := Lib.hid (show gline x.data.toList = .ok d by rw [HG.out, HG1.out, hrd])
                refine (culvertref25_Read.calls _ p1 d 0 _ hf).mono ?_
                rintro e w4 ⟨v9, rfl, hR9, hb4⟩
                obtain ⟨A9, c9, rfl⟩ := Kd.R_slice hR9
                have HBS := Lib.hid (R_bs hR9 (gline_bytes HGD.out))
                have HB4 := Lib.hid (belowT HB3.out hb4)
                have HO4 := Lib.hid (HO3.out.next hb4)
                have HFT := Lib.hid (HR.out.fits HRL.out HS.out HX.out HGD.out)
                clear hR9 hb4 hf hrd
                go_wp2_with (at_builtin; go_loud (refine wpList_append_bs rfl _ _ rfl w1.heap.size u4 out rfl HO4.out A9 d.length c9 d rfl HBS.out HFT.out HB4.out.size ?_; intro v5 w5 ho5 hg5 _; have HB5 := Lib.hid (HB4.out.grown hg5 HB4.out.size (fun j hj => (HO4.out.blk j hj).1)); have HO5 := Lib.hid ho5; clear ho5 hg5))
                go_roundw
                case rel => exact ⟨k + 1, out ++ d, by omega, by go_num, Lib.hid (HR.out.step HX.out HGD.out HO5.out HB5.out)⟩
                case measure => simp [intOf]; omega
            · have hn1 : ((pr.length : Int) + 1 == 2) = false := by rw [beq_eq_false_iff_ne]; omega
              have HE := Lib.hid (HR.out.err HRL.out HX.out (gl_two HF.out H35.out hwb (by rw [← HPL.out]; exact hpb) (by rw [← HPL.out, lsw_len, List.length_cons]; omega)))
              clear hwb hpb hn
              go_wp2_with fail
              go_ret2
              refine ⟨belowT HB1.out HB3.out, ?_⟩
              rw [HE.out]
              rfl
          · have hp1 : (p0.toList == [98, 121, 116, 101, 115]) = false := by rw [Lib.toList_data]; exact beq_eq_false_iff_ne.2 hpb
            have HE := Lib.hid (HR.out.err HRL.out HX.out (gl_bytes HF.out H35.out hwb (by rw [← HPL.out]; exact hpb)))
            clear hwb hpb
            go_wp2_with fail
            go_ret2
            refine ⟨belowT HB1.out HB3.out, ?_⟩
            rw [HE.out]
            rfl
        · have hw1 : (wd.toList == [98, 121, 116, 101, 115]) = false := by rw [Lib.toList_data]; exact beq_eq_false_iff_ne.2 hwb
          have HG := Lib.hid (gl_parse HF.out H35.out hwb)
          have HP := Lib.hid (rparse_any x (lt_8 HXS.out) w3)
          clear hwb
          go_wp2_with fail
          refine HP.out.mono ?_
          rintro e w4 ⟨hb4, he4⟩
          cases hrp : rparse x.data.toList with
          | error kk =>
            rw [hrp] at he4
            obtain rfl := he4
            have HB4 := Lib.hid (belowT HB3.out hb4)
            have HE := Lib.hid (HR.out.err HRL.out HX.out (by rw [HG.out, hrp]))
            have hkz := nz_ne (rp_err hrp)
            clear hb4 hrp
            go_wp2_with fail
            go_ret2
            refine ⟨(belowT HB1.out HB4.out).alloc (belowT HB1.out HB4.out).size _, ?_⟩
            rw [HE.out]
            rfl
          | ok hd =>
            obtain ⟨h, d⟩ := hd
            rw [hrp] at he4
            obtain ⟨A9, c9, rfl, hR9⟩ := he4
            obtain ⟨eb, heb⟩ : ∃ eb, eb = encH h d := ⟨_, rfl⟩
            have HGD := Lib.hid (show gline x.data.toList = .ok eb by rw [HG.out, hrp, heb])
            have HEB := Lib.hid heb
            have hok := rparse_ok hrp
            have HBS := Lib.hid (R_bs hR9 hok.2.1)
            have HSZ := Lib.hid (rp_frame hrp)
            have HOK := Lib.hid hok.1
            have HB4 := Lib.hid (belowT HB3.out hb4)
            have HO4 := Lib.hid (HO3.out.next hb4)
            have HFT := Lib.hid (HR.out.fits HRL.out HS.out HX.out HGD.out)
            clear hR9 hb4 hrp hok heb
            go_wp2_with fail
            obtain ⟨w5, hw5⟩ : ∃ w5, w5 = w4.alloc (.cells #[.int .u8 h.ver, .int .u8 h.ty, .int .u16 h.fl, .int .u32 h.st, .int .u32 h.ln, .slice A9 d.length c9] 28) := ⟨_, rfl⟩
            have HB5 := Lib.hid (show Below w4.heap.size w4 w5 by rw [hw5]; exact (Below.refl _ _).alloc (Nat.le_refl _) _)
            rw [← hw5]
            clear hw5
            refine (rfbytes_yes h.ver h.ty h.fl h.st h.ln A9 d.length c9 d w5 (HBS.out.next HB5.out) (Int.natCast_nonneg _) (okI HOK.out).1 (Int.natCast_nonneg _) (okI HOK.out).2.1 (Int.natCast_nonneg _) (okI HOK.out).2.2.1 (Int.natCast_nonneg _) (okI HOK.out).2.2.2.1 (Int.natCast_nonneg _) (okI HOK.out).2.2.2.2 HSZ.out).mono ?_
            rintro e w6 ⟨v6, rfl, ho6, hb6⟩
            have ho6' : Own w6 w5.heap.size v6 eb := by rw [HEB.out]; exact ho6
            obtain ⟨A6, c6, rfl, hq6⟩ := Own.bs ho6' (gline_bytes HGD.out)
            have HQ6 := Lib.hid hq6
            have HB6 := Lib.hid (belowT (belowT HB4.out HB5.out) hb6)
            have HO6 := Lib.hid (HO4.out.next (belowT HB5.out hb6))
            clear ho6 ho6' hq6 hb6
            go_wp2_with (at_builtin; go_loud (refine wpList_append_bs rfl _ _ rfl w1.heap.size u4 out rfl HO6.out A6 eb.length c6 eb rfl HQ6.out HFT.out HB6.out.size ?_; intro v7 w7 ho7 hg7 _; have HB7 := Lib.hid (HB6.out.grown hg7 HB6.out.size (fun j hj => (HO6.out.blk j hj).1)); have HO7 := Lib.hid ho7; clear ho7 hg7))
            go_roundw
            case rel => exact ⟨k + 1, out ++ eb, by omega, by go_num, Lib.hid (HR.out.step HX.out HGD.out HO7.out HB7.out)⟩
            case measure => simp [intOf]; omega
  · obtain rfl : k = r.length := by omega
    have hd : decide ((r.length : Int) < (r.length : Int)) = false := by simp
    have HRN := Lib.hid (HR.out.all HRL.out)
    go_wp2_with fail
    go_ret2
    refine ⟨belowT HB1.out HR.out.bel, ?_⟩
    rw [HRN.out]
    exact ⟨_, rfl, HR.out.own.lower HB1.out.size⟩
end Go.Proofs.YtidmgckmphcegaaGreatDoor
