/-
  TapBack, walked: a frame that has a line is read back from it; one line, one frame.
-/
import Derived.Test.YtidmgckmphcegaaGreatDoorTCanon
import Derived.Test.YtidmgckmphcegaaGreatDoorTCopied
import Derived.Test.YtidmgckmphcegaaGreatDoorMD
import Derived.Test.YtidmgckmphcegaaGreatDoorRows
namespace Go.Proofs.YtidmgckmphcegaaGreatDoor
open Go.RowKit Go.Proofs.YtidmgckmphcegaaGreatDoorW.PrintWords Go.Proofs.YtidmgckmphcegaaGreatDoorW.PrintLast Go.Proofs.YtidmgckmphcegaaGreatDoor.Px
set_option linter.unusedVariables false
set_option linter.unusedSimpArgs false
open Go.ChangeShapes in

theorem bulk_frame {H : Type} {dh db : DataW H} {n : Nat} (h : db = .nil ∧ n = 0 ∨ ∃ es sp, db = .slice es sp ∧ es.length = n) : n ≤ Rows.uptoBulk (.agg [dh, db]) := by
  rcases h with ⟨rfl, rfl⟩ | ⟨es, sp, rfl, rfl⟩
  · exact Nat.zero_le _
  · have h1 := bulk_len es
    simp only [Rows.uptoBulk, Rows.uptoBulkAll]
    omega
/-- A frame that has a line is read back from it. -/
theorem back_parse {h : Hd} (ho : h.Ok) {d : List Int} (hd : ∀ x ∈ d, 0 ≤ x ∧ x ≤ 255) (hs : (d.length : Int) = szF h.ty h.ln) : gparse (lineB h d) = .ok (h, d) := by
  rw [gparse_line ho hd]
  unfold szF at hs
  by_cases e : h.ty = 0
  · rw [if_pos e]
    rw [if_pos (by omega)] at hs
    rw [if_neg (by omega)]
  · rw [if_neg e]
    rw [if_neg (by omega)] at hs
    have : d = [] := List.eq_nil_of_length_eq_zero (by omega)
    rw [this]
theorem back_len {h : Hd} (ho : h.Ok) (d : List Int) : (lineB h d).length ≤ 422 + 3 * d.length := by
  have ht := text_len h.ver h.ty h.fl h.st h.ln (by have := ho.ver; omega) (by have := ho.ty; omega) (by have := ho.fl; omega) (by have := ho.st; omega) (by have := ho.ln; omega)
  have hd := told_len d
  unfold lineB textH
  split
  · rw [List.length_append, List.length_cons]; omega
  · omega
theorem ls_eq (a b : List UInt8) : ((⟨a.toArray⟩ : ByteArray).toList == (⟨b.toArray⟩ : ByteArray).toList) = true ↔ a = b := by
  rw [beq_iff_eq, Lib.toList_data, Lib.toList_data]
theorem back_line {h g : Hd} (ho : h.Ok) (hg : g.Ok) {d e : List Int} (hd : ∀ x ∈ d, 0 ≤ x ∧ x ≤ 255) (he : ∀ x ∈ e, 0 ≤ x ∧ x ≤ 255) (h1 : (d.length : Int) = szF h.ty h.ln) (h2 : (e.length : Int) = szF g.ty g.ln) : lineB h d = lineB g e ↔ (h = g ∧ d = e) := by
  constructor
  · intro e1
    have p1 := back_parse ho hd h1
    rw [e1, back_parse hg he h2] at p1
    simp only [Except.ok.injEq, Prod.mk.injEq] at p1
    exact ⟨p1.1.symm, p1.2.symm⟩
  · rintro ⟨rfl, rfl⟩; rfl
set_option maxRecDepth 100000 in
set_option maxHeartbeats 4000000 in
theorem tapBack_walk {sa : Nat → Addr} {w : World} (hE : TE sa w) (h g : Hd) (ho : h.Ok) (go : g.Ok) (A : Option Addr) (n c : Nat) (xs : List Int) (hB : Bs w A n c xs) (hn : n ≤ 1048576) (B : Option Addr) (m d : Nat) (ys : List Int) (hC : Bs w B m d ys) (hm : m ≤ 1048576) :
    Calls Tryz.prog 6 #[frm h.ver h.ty h.fl h.st h.ln A n c, frm g.ver g.ty g.fl g.st g.ln B m d] w fun e w' => e = .returned (.bool true) ∧ Below w.heap.size w w' := by
  obtain ⟨w1, hw1⟩ : ∃ w1, w1 = (w.alloc (.cells #[.int .u8 h.ver, .int .u8 h.ty, .int .u16 h.fl, .int .u32 h.st, .int .u32 h.ln, .slice A n c] 28)).alloc (.cells #[.int .u8 g.ver, .int .u8 g.ty, .int .u16 g.fl, .int .u32 g.st, .int .u32 g.ln, .slice B m d] 28) := ⟨_, rfl⟩
  have hb1 : Below w.heap.size w w1 := by rw [hw1]; exact belowT ((Below.refl _ _).alloc (Nat.le_refl _) _) ((Below.refl _ _).alloc (Nat.le_refl _) _)
  have hf1 : w1.heap[w.heap.size]? = some (.cells #[.int .u8 h.ver, .int .u8 h.ty, .int .u16 h.fl, .int .u32 h.st, .int .u32 h.ln, .slice A n c] 28 (0, 0)) := by rw [hw1]; exact keepB ((Below.refl _ _).alloc (Nat.le_refl _) _) (alloc_at _ _)
  have hg1 : w1.heap[w.heap.size + 1]? = some (.cells #[.int .u8 g.ver, .int .u8 g.ty, .int .u16 g.fl, .int .u32 g.st, .int .u32 g.ln, .slice B m d] 28 (0, 0)) := by rw [hw1]; exact alloc_at2 _ _ _
  have hbx := hB.byt
  have hby := hC.byt
  have hnl := hB.len
  have hml := hC.len
  have HE := Lib.hid hE
  have HW1 := Lib.hid hw1
  have HB1 := Lib.hid hb1
  have HF1 := Lib.hid hf1
  have HG1 := Lib.hid hg1
  have HQ1 := Lib.hid (hB.next hb1)
  have HR1 := Lib.hid (hC.next hb1)
  have HBX := Lib.hid hbx
  have HBY := Lib.hid hby
  have o0 := ho.ver
  have o1 := ho.ty
  have o2 := ho.fl
  have o3 := ho.st
  have o4 := ho.ln
  have HHO := Lib.hid ho
  have HGO := Lib.hid go
  clear hE hw1 hb1 hf1 hg1 hB hC hbx hby ho go
  go_enter Tryz.func6, Tryz.ntmps6
  go_wp2_with fail
  rw [← HW1.out]
  refine (wakes_any (HE.out.below HB1.out)).mono ?_
  rintro e w2 ⟨rfl, hb2⟩
  have HB2 := Lib.hid (belowT HB1.out hb2)
  have HF2 := Lib.hid (keepB hb2 HF1.out)
  have HG2 := Lib.hid (keepB hb2 HG1.out)
  have HQ2 := Lib.hid (HQ1.out.next hb2)
  have HR2 := Lib.hid (HR1.out.next hb2)
  clear hb2 HW1 HB1 HF1 HG1 HQ1 HR1
  obtain ⟨a0, a1, a2, a3, a4, a5⟩ := FB.of_blk HF2.out
  go_wp2_with fail
  refine (copied_any h.ver h.ty h.fl h.st h.ln HQ2.out (by omega)).mono ?_
  rintro e w3 ⟨A3, c3, rfl, hq3, hb3⟩
  have HB3 := Lib.hid (belowT HB2.out hb3)
  have HF3 := Lib.hid (keepB hb3 HF2.out)
  have HG3 := Lib.hid (keepB hb3 HG2.out)
  have HQ3 := Lib.hid (HQ2.out.next hb3)
  have HR3 := Lib.hid (HR2.out.next hb3)
  have HS3 := Lib.hid hq3
  clear hb3 hq3 HB2 HF2 HG2 HQ2 HR2 a0 a1 a2 a3 a4 a5
  go_wp2_with fail
  have hE3 := HE.out.below HB3.out
  refine (line_any h.ver h.ty h.fl h.st h.ln A3 n c3 xs w3 hE3.good hE3.pow hE3.wrd HS3.out.toRd (by omega) (by omega) (by omega) (by omega) (by omega)).mono ?_
  rintro e w4 ⟨rfl, hb4⟩
  have HB4 := Lib.hid (belowT HB3.out hb4)
  have HF4 := Lib.hid (keepB hb4 HF3.out)
  have HG4 := Lib.hid (keepB hb4 HG3.out)
  have HQ4 := Lib.hid (HQ3.out.next hb4)
  have HR4 := Lib.hid (HR3.out.next hb4)
  clear hb4 hE3 HB3 HF3 HG3 HQ3 HR3 HS3
  by_cases hsz : (n : Int) = szF h.ty h.ln
  · rw [if_pos hsz]
    have HSZ := Lib.hid hsz
    clear hsz
    obtain ⟨a0, a1, a2, a3, a4, a5⟩ := FB.of_blk HF4.out
    go_wp2_with fail
    refine (copied_any h.ver h.ty h.fl h.st h.ln HQ4.out (by omega)).mono ?_
    rintro e w5 ⟨A5, c5, rfl, hq5, hb5⟩
    have HB5 := Lib.hid (belowT HB4.out hb5)
    have HF5 := Lib.hid (keepB hb5 HF4.out)
    have HG5 := Lib.hid (keepB hb5 HG4.out)
    have HQ5 := Lib.hid (HQ4.out.next hb5)
    have HR5 := Lib.hid (HR4.out.next hb5)
    have HS5 := Lib.hid hq5
    clear hb5 hq5 HB4 HF4 HG4 HQ4 HR4 a0 a1 a2 a3 a4 a5
    go_wp2_with fail
    refine (fbytes_yes h.ver h.ty h.fl h.st h.ln A5 n c5 xs w5 HS5.out (by omega) (by omega) (by omega) (by omega) (by omega) (by omega) HSZ.out).mono ?_
    rintro e w6 ⟨v6, rfl, _, hb6⟩
    have HB6 := Lib.hid (belowT HB5.out hb6)
    have HF6 := Lib.hid (keepB hb6 HF5.out)
    have HG6 := Lib.hid (keepB hb6 HG5.out)
    have HQ6 := Lib.hid (HQ5.out.next hb6)
    have HR6 := Lib.hid (HR5.out.next hb6)
    clear hb6 HB5 HF5 HG5 HQ5 HR5 HS5
    go_wp2_with fail
    go_region
    obtain ⟨w7, hw7⟩ : ∃ w7, w7 = w6.drew := ⟨_, rfl⟩
    have hb7 : Below w6.heap.size w6 w7 := by rw [hw7]; exact (Below.refl _ _).drew
    rw [← hw7]
    have HB7 := Lib.hid (belowT HB6.out hb7)
    have HF7 := Lib.hid (keepB hb7 HF6.out)
    have HG7 := Lib.hid (keepB hb7 HG6.out)
    have HQ7 := Lib.hid (HQ6.out.next hb7)
    have HR7 := Lib.hid (HR6.out.next hb7)
    clear hb7 hw7 HB6 HF6 HG6 HQ6 HR6
    go_wp2_with fail
    have hbl := back_len HHO.out xs
    have hsx : (xs.length : Int) = szF h.ty h.ln := by rw [hnl]; exact HSZ.out
    have hgp := back_parse HHO.out HBX.out hsx
    obtain ⟨sl, hsl⟩ : ∃ sl : ByteArray, sl = ⟨(lineB ⟨h.ver, h.ty, h.fl, h.st, h.ln⟩ xs).toArray⟩ := ⟨_, rfl⟩
    have hsd : sl.data.toList = lineB h xs := by rw [hsl]
    have hss : sl.size ≤ 4294967280 := by rw [ba_len, hsd]; omega
    rw [← hsl]
    have HSL := Lib.hid hsl
    have HGP := Lib.hid (show gparse sl.data.toList = .ok (h, xs) by rw [hsd]; exact hgp)
    clear hsl hsd hbl hgp
    refine (tparse (HE.out.below HB7.out) sl hss).mono ?_
    intro e w8 hp8
    obtain ⟨A8, c8, rfl, hq8, hb8⟩ := hp8.ok HGP.out
    rw [hnl] at hq8 ⊢
    have HB8 := Lib.hid (belowT HB7.out hb8)
    have HF8 := Lib.hid (keepB hb8 HF7.out)
    have HG8 := Lib.hid (keepB hb8 HG7.out)
    have HQ8 := Lib.hid (HQ7.out.next hb8)
    have HR8 := Lib.hid (HR7.out.next hb8)
    have HS8 := Lib.hid hq8
    clear hb8 hq8 hp8 HB7 HF7 HG7 HQ7 HR7
    have hb9 : Below w8.heap.size w8 (w8.alloc (.cells #[.int .u8 h.ver, .int .u8 h.ty, .int .u16 h.fl, .int .u32 h.st, .int .u32 h.ln, .slice A8 n c8] 28)) := (Below.refl _ _).alloc (Nat.le_refl _) _
    obtain ⟨a0, a1, a2, a3, a4, a5⟩ := FB.of_blk (keepB hb9 HF8.out)
    go_wp2_with fail
    obtain ⟨w9, hw9⟩ : ∃ w9, w9 = w8.alloc (.cells #[.int .u8 h.ver, .int .u8 h.ty, .int .u16 h.fl, .int .u32 h.st, .int .u32 h.ln, .slice A8 n c8] 28) := ⟨_, rfl⟩
    rw [← hw9] at hb9 a0 a1 a2 a3 a4 a5 ⊢
    have HB9 := Lib.hid (belowT HB8.out hb9)
    have HF9 := Lib.hid (keepB hb9 HF8.out)
    have HG9 := Lib.hid (keepB hb9 HG8.out)
    have HQ9 := Lib.hid (HQ8.out.next hb9)
    have HR9 := Lib.hid (HR8.out.next hb9)
    have HS9 := Lib.hid (HS8.out.next hb9)
    clear hb9 hw9 HB8 HF8 HG8 HQ8 HR8 HS8
    refine (same04 h.ver h.ty h.fl h.st h.ln h.ver h.ty h.fl h.st h.ln HS9.out HQ9.out).mono ?_
    rintro e wa ⟨bb, rfl, hbb, hba⟩
    obtain rfl : bb = true := hbb.2 ⟨rfl, rfl⟩
    have HBa := Lib.hid (belowT HB9.out hba)
    have HFa := Lib.hid (keepB hba HF9.out)
    have HGa := Lib.hid (keepB hba HG9.out)
    have HQa := Lib.hid (HQ9.out.next hba)
    have HRa := Lib.hid (HR9.out.next hba)
    clear hbb hba a0 a1 a2 a3 a4 a5 HB9 HF9 HG9 HQ9 HR9 HS9
    obtain ⟨b0, b1, b2, b3, b4, b5⟩ := FB.of_blk HGa.out
    go_wp2_with fail
    refine (copied_any g.ver g.ty g.fl g.st g.ln HRa.out (by omega)).mono ?_
    rintro e wb ⟨Ab, cb, rfl, hqb, hbb⟩
    have HBb := Lib.hid (belowT HBa.out hbb)
    have HFb := Lib.hid (keepB hbb HFa.out)
    have HGb := Lib.hid (keepB hbb HGa.out)
    have HQb := Lib.hid (HQa.out.next hbb)
    have HRb := Lib.hid (HRa.out.next hbb)
    have HSb := Lib.hid hqb
    clear hbb hqb HBa HFa HGa HQa HRa b0 b1 b2 b3 b4 b5
    go_wp2_with fail
    have hEb := HE.out.below HBb.out
    have g0 := HGO.out.ver
    have g1 := HGO.out.ty
    have g2 := HGO.out.fl
    have g3 := HGO.out.st
    have g4 := HGO.out.ln
    refine (line_any g.ver g.ty g.fl g.st g.ln Ab m cb ys wb hEb.good hEb.pow hEb.wrd HSb.out.toRd (by omega) (by omega) (by omega) (by omega) (by omega)).mono ?_
    rintro e wc ⟨rfl, hbc⟩
    have HBc := Lib.hid (belowT HBb.out hbc)
    have HFc := Lib.hid (keepB hbc HFb.out)
    have HGc := Lib.hid (keepB hbc HGb.out)
    have HQc := Lib.hid (HQb.out.next hbc)
    have HRc := Lib.hid (HRb.out.next hbc)
    clear hbc hEb HBb HFb HGb HQb HRb HSb
    by_cases hsg : (m : Int) = szF g.ty g.ln
    · rw [if_pos hsg]
      have hsy : (ys.length : Int) = szF g.ty g.ln := by rw [hml]; exact hsg
      have hle := back_line HHO.out HGO.out HBX.out HBY.out hsx hsy
      obtain ⟨ul, hul⟩ : ∃ ul : ByteArray, ul = ⟨(lineB ⟨g.ver, g.ty, g.fl, g.st, g.ln⟩ ys).toArray⟩ := ⟨_, rfl⟩
      rw [← hul]
      have HUL := Lib.hid (show (sl.toList == ul.toList) = true ↔ (h = g ∧ xs = ys) by rw [HSL.out, hul, ls_eq]; exact hle)
      clear hul hle hsg
      obtain ⟨a0, a1, a2, a3, a4, a5⟩ := FB.of_blk HFc.out
      obtain ⟨b0, b1, b2, b3, b4, b5⟩ := FB.of_blk HGc.out
      go_wp2_with fail
      refine (same04 h.ver h.ty h.fl h.st h.ln g.ver g.ty g.fl g.st g.ln HQc.out HRc.out).mono ?_
      rintro e wd ⟨bb, rfl, hbb, hbd⟩
      have hfin : ((sl.toList == ul.toList) == bb) = true := by
        rw [beq_iff_eq, Bool.eq_iff_iff, HUL.out, hbb]
      have HFI := Lib.hid hfin
      clear hfin hbb
      go_wp2_with fail
      go_ret
      exact ⟨by first | (rw [HFI.out]; rfl) | (simp [HFI.out]), belowT HBc.out hbd⟩
    · rw [if_neg hsg]
      have HSG := Lib.hid hsg
      clear hsg
      go_wp2_with fail
      go_ret
      exact ⟨rfl, HBc.out⟩
  · rw [if_neg hsz]
    obtain ⟨a0, a1, a2, a3, a4, a5⟩ := FB.of_blk HF4.out
    have HSZ := Lib.hid hsz
    clear hsz
    go_wp2_with fail
    refine (copied_any h.ver h.ty h.fl h.st h.ln HQ4.out (by omega)).mono ?_
    rintro e w5 ⟨A5, c5, rfl, hq5, hb5⟩
    have HB5 := Lib.hid (belowT HB4.out hb5)
    have HS5 := Lib.hid hq5
    clear hb5 hq5 HB4 HF4 HG4 HQ4 HR4 a0 a1 a2 a3 a4 a5
    go_wp2_with fail
    refine (fbytes_no (sa := sa) h.ver h.ty h.fl h.st h.ln A5 n c5 xs w5 (HE.out.below HB5.out).good HS5.out (by omega) (by omega) (by omega) (by omega) (by omega) (by omega) HSZ.out).mono ?_
    rintro e w6 ⟨rfl, hb6⟩
    have HB6 := Lib.hid (belowT HB5.out hb6)
    clear hb6 HB5 HS5
    go_wp2_with fail
    go_region
    obtain ⟨w7, hw7⟩ : ∃ w7, w7 = w6.drew := ⟨_, rfl⟩
    have hb7 : Below w6.heap.size w6 w7 := by rw [hw7]; exact (Below.refl _ _).drew
    rw [← hw7]
    have HB7 := Lib.hid (belowT HB6.out hb7)
    clear hb7 hw7 HB6
    go_wp2_with fail
    refine (code_any (sa := sa) (w := w7) (c := 15) (s := 0) (v := sv (sa 15)) (HE.out.below HB7.out).good (EV_c (.inr (.inr rfl)))).mono ?_
    rintro e w7 ⟨rfl, rfl⟩
    go_wp2_with fail
    go_ret
    exact ⟨rfl, HB7.out⟩
end Go.Proofs.YtidmgckmphcegaaGreatDoor
