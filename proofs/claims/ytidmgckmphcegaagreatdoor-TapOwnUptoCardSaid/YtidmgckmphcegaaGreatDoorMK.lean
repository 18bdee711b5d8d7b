import Derived.Test.YtidmgckmphcegaaGreatDoorMI
import Derived.Test.YtidmgckmphcegaaGreatDoorMF
import Derived.Test.YtidmgckmphcegaaGreatDoorMD
/-
 tap.written.
-/
namespace Go.Proofs.YtidmgckmphcegaaGreatDoor
open Go.RowKit Go.Proofs.YtidmgckmphcegaaGreatDoorW.PrintWords Go.Proofs.YtidmgckmphcegaaGreatDoorW.PrintLast
set_option linter.unusedVariables false
set_option linter.unusedSimpArgs false
theorem enc_bytes {h : Hd} (ho : h.Ok) : ∀ x ∈ enc h.ver h.ty h.fl h.st h.ln, 0 ≤ x ∧ x ≤ 255 := by
 intro x hx
 have h1 := ho.ver; have h2 := ho.ty; have h3 := ho.fl; have h4 := ho.st; have h5 := ho.ln
 simp only [enc, List.mem_cons, List.not_mem_nil, or_false] at hx
 rcases hx with rfl | rfl | rfl | rfl | rfl | rfl | rfl | rfl | rfl | rfl | rfl | rfl <;> omega
theorem gline_bytes {l : List UInt8} {b : List Int} (h : gline l = .ok b) : ∀ x ∈ b, 0 ≤ x ∧ x ≤ 255 := by
 unfold gline at h
 split at h
 · injection h with h; subst h; simp
 · split at h
   · injection h with h; subst h; simp
   · split at h
     · split at h
       · split at h
         · cases h
         · rename_i d hr
           injection h with h; subst h
           exact (read_sound hr).2
       · cases h
     · split at h
       · cases h
       · rename_i hd d hp
         injection h with h; subst h
         obtain ⟨ho, hb, _⟩ := gparse_ok hp
         intro x hx
         rcases List.mem_append.1 hx with hx | hx
         · exact enc_bytes ho x hx
         · exact hb x hx
def LineTo (sa : Nat → Addr) (w : World) (l : List UInt8) (e : Ending) (w' : World) : Prop :=
 match gline l with
 | .error c => e = .returned (.tuple #[.slice none 0 0, sv (sa c)]) ∧ Below w.heap.size w w'
 | .ok b => ∃ v, e = .returned (.tuple #[v, .nilIface]) ∧ Own w' w.heap.size v b ∧ Below w.heap.size w w'
theorem blank_any (x : Nat) (w : World) : Calls Tryz.prog 103 #[.int .i32 x] w fun e w' => e = .returned (.bool (blkR x)) ∧ ∃ q, w' = w.drewN q := by
 have e32 : ((x : Int) == 32) = (x == 32) := by rw [Bool.eq_iff_iff]; simp; omega
 have e9 : ((x : Int) == 9) = (x == 9) := by rw [Bool.eq_iff_iff]; simp; omega
 have e13 : ((x : Int) == 13) = (x == 13) := by rw [Bool.eq_iff_iff]; simp; omega
 go_enter Tryz.func103, Tryz.ntmps103
 go_wp2_with fail
 all_goals (go_ret; refine ⟨?_, 0, rfl⟩; unfold blkR)
 all_goals (first | rfl | (congr 2; simp_all))
theorem fields_any (line : ByteArray) (hs : line.size ≤ 4294967296) (w : World) :
    Calls Tryz.prog 102 #[.string line, .func (.func 103) #[] #[]] w fun e w' => ∃ A, e = .returned (.slice (some ⟨A, 0, none⟩) (Lib.goFieldsP blkR line).length (Lib.goFieldsP blkR line).length) ∧
     (∀ x r, Lib.goFieldsP blkR line = x :: r → w'.cell? ⟨A, 0, none⟩ = some (.string x)) ∧ Below w.heap.size w w' := by
 refine (Tryz.strings_FieldsFunc_runes 103 #[] (fun args w => by kernel_rfl) blkR line w hs (fun W x hx hb => blank_any x W)).mono ?_
 rintro e w' ⟨A, he, hA, hown, hb⟩
 refine ⟨A, he, fun x r hx => ?_, hb⟩
 have := hown.cellAt 0 (by rw [hx]; simp)
 rw [this, hx]; rfl
set_option maxRecDepth 100000 in
set_option maxHeartbeats 2000000 in
theorem written_any {sa : Nat → Addr} (line : ByteArray) (hs : line.size ≤ 4294967296) (w : World) (hG : Good w sa) (hP : Pow10 w) (hW : Words w) (hN : NErr w) (hsp : Up w (Splits 32 line)) :
    Calls Tryz.prog 65 #[.string line] w (LineTo sa w line.data.toList) := by
 have HG := Lib.hid hG
 have HP := Lib.hid hP
 have HW := Lib.hid hW
 have HN := Lib.hid hN
 have HSP := Lib.hid hsp
 clear hG hP hW hN hsp
 go_enter Tryz.func65, Tryz.ntmps65
 go_wp2_with fail
 refine (fields_any line hs w).mono ?_
 rintro e w1 ⟨A, rfl, hc1, hb1⟩
 have HB1 := Lib.hid hb1
 rcases fields_first line with ⟨h1, h2⟩ | ⟨X, r, h1, h2, h3⟩
 · have hn0 : (Lib.goFieldsP blkR line).length = 0 := by rw [h1]; rfl
   have HRN : Hid (gline line.data.toList = .ok []) := by
    show gline _ = _
    unfold gline
    rw [h2]
   clear h1 h2 hc1 hb1
   rw [hn0]
   clear hn0
   go_wp2_with fail
   go_ret2
   show LineTo _ _ _ _ _
   unfold LineTo
   rw [HRN.out]
   exact ⟨_, rfl, World.ownsRow_nil _ _ _ _, HB1.out⟩
 · have hn1 : (Lib.goFieldsP blkR line).length = r.length + 1 := by rw [h1]; rfl
   have cx := hc1 X r h1
   have hXne : X.data.toList ≠ [] := firstW_ne h2
   have hX1 : 0 < X.size := by
    have : X.data.toList.length = X.size := by simp
    have := List.length_pos_iff.2 hXne
    omega
   have HF := Lib.hid h2
   rw [hn1]
   clear h1 h2 hc1 hb1 hn1
   have hz : (((r.length : Int) + 1) == 0) = false := by rw [beq_eq_false_iff_ne]; omega
   have hhd : X.data.toList.headD 0 = X[0]'hX1 := by
    cases hx : X.data.toList with
    | nil => exact absurd hx hXne
    | cons y ys =>
      have : X.data.toList[0]'(by rw [hx]; simp) = X[0]'hX1 := rfl
      rw [← this]
      simp [hx]
   have HHD := Lib.hid hhd
   clear hhd hXne
   by_cases h35 : X[0]'hX1 = 35
   · have hc35 : (((X[0]'hX1).toNat : Int) == 35) = true := by rw [h35]; rfl
     have HRN : Hid (gline line.data.toList = .ok []) := by
      show gline _ = _
      unfold gline
      rw [HF.out]
      simp only
      rw [if_pos (by rw [HHD.out]; exact h35)]
     clear h35
     go_wp2_with fail
     go_ret2
     show LineTo _ _ _ _ _
     unfold LineTo
     rw [HRN.out]
     exact ⟨_, rfl, World.ownsRow_nil _ _ _ _, HB1.out⟩
   · have hc35 : (((X[0]'hX1).toNat : Int) == 35) = false := by
       rw [beq_eq_false_iff_ne]; intro e; exact h35 (UInt8.toNat.inj (by have : (35 : UInt8).toNat = 35 := rfl; omega))
     have H35 := Lib.hid h35
     clear h35
     by_cases hby : X.data.toList = wBytes
     · have hq : (X.toList == [98, 121, 116, 101, 115]) = true := by rw [Lib.toList_data, hby]; rfl
       have HBY := Lib.hid hby
       clear hby
       go_wp2_with fail
       refine (Tryz.strings_CutPrefix line ⟨#[98, 121, 116, 101, 115, 32]⟩ w1).mono ?_
       rintro e w2 ⟨rfl, rfl⟩
       have hpe : Lib.hasPrefix line.data.toList (⟨#[98, 121, 116, 101, 115, 32]⟩ : ByteArray).data.toList = Lib.hasPrefix line.data.toList wBytes_ := rfl
       have hte : Lib.trimPrefix line.data.toList (⟨#[98, 121, 116, 101, 115, 32]⟩ : ByteArray).data.toList = if Lib.hasPrefix line.data.toList wBytes_ = true then line.data.toList.drop 6 else line.data.toList := rfl
       rw [hpe, hte]
       clear hpe hte
       by_cases hpx : Lib.hasPrefix line.data.toList wBytes_ = true
       · have hgl : ∀ res, (match read (line.data.toList.drop 6) with | none => .error 41 | some d => .ok d) = res → gline line.data.toList = res := by
           intro res hr
           rw [← hr]
           unfold gline
           rw [HF.out]
           simp only
           rw [if_neg (by rw [HHD.out]; exact H35.out), if_pos HBY.out, if_pos hpx]
           cases read (line.data.toList.drop 6) <;> rfl
         have HGL := Lib.hid hgl
         rw [hpx, if_pos rfl]
         obtain ⟨Z, hZ⟩ : ∃ Z : ByteArray, Z = ⟨(line.data.toList.drop 6).toArray⟩ := ⟨_, rfl⟩
         have hZl : Z.data.toList = line.data.toList.drop 6 := by rw [hZ]
         have hZs : Z.size ≤ 1099511627776 := by
          have h1 : Z.data.toList.length = Z.size := by simp
          have h2 : line.data.toList.length = line.size := by simp
          rw [hZl, List.length_drop] at h1
          omega
         rw [← hZ]
         have HZL := Lib.hid hZl
         have HZS := Lib.hid hZs
         clear hgl hpx hZ hZl hZs
         go_wp2_with fail
         refine (read_any Z HZS.out _ (HG.out.below HB1.out)).mono ?_
         rintro e w3 hR
         rw [HZL.out] at hR
         unfold ReadTo at hR
         cases hrd : read (line.data.toList.drop 6) with
         | none =>
           rw [hrd] at hR
           obtain ⟨rfl, hb3⟩ := hR
           have HRN : Hid (gline line.data.toList = .error 41) := HGL.out _ (by rw [hrd])
           have HB3 := Lib.hid (belowT HB1.out hb3)
           have g41 := ((HG.out.below HB3.out).at_ 41 (by omega) (by omega)).glob
           simp only [sgb] at g41
           clear hrd hb3
           go_wp2_with fail
           go_region
           all_goals
            go_wp2_with fail
            go_ret2
            show LineTo _ _ _ _ _
            unfold LineTo
            rw [HRN.out]
            exact ⟨rfl, HB3.out.drew⟩
         | some d =>
           rw [hrd] at hR
           obtain ⟨v3, rfl, hO3, hb3⟩ := hR
           have HRN : Hid (gline line.data.toList = .ok d) := HGL.out _ (by rw [hrd])
           have HB3 := Lib.hid (belowT HB1.out hb3)
           have HO3 := Lib.hid (hO3.lower HB1.out.size)
           clear hrd hb3 hO3
           go_wp2_with fail
           go_ret2
           show LineTo _ _ _ _ _
           unfold LineTo
           rw [HRN.out]
           exact ⟨_, rfl, HO3.out, HB3.out⟩
       · have hpx' : Lib.hasPrefix line.data.toList wBytes_ = false := by simpa using hpx
         have HRN : Hid (gline line.data.toList = .error 41) := by
          show gline _ = _
          unfold gline
          rw [HF.out]
          simp only
          rw [if_neg (by rw [HHD.out]; exact H35.out), if_pos HBY.out, if_neg hpx]
         rw [hpx', if_neg (by decide)]
         have g41 := ((HG.out.below HB1.out).at_ 41 (by omega) (by omega)).glob
         simp only [sgb] at g41
         clear hpx hpx'
         go_wp2_with fail
         go_region
         all_goals
          go_wp2_with fail
          go_ret2
          show LineTo _ _ _ _ _
          unfold LineTo
          rw [HRN.out]
          exact ⟨rfl, HB1.out.drew⟩
     · have hq : (X.toList == [98, 121, 116, 101, 115]) = false := by rw [Lib.toList_data]; exact beq_eq_false_iff_ne.2 hby
       have hgl : ∀ res, (match gparse line.data.toList with | .error e => .error e | .ok (h, d) => .ok (encH h d)) = res → gline line.data.toList = res := by
        intro res hr
        rw [← hr]
        unfold gline
        rw [HF.out]
        simp only
        rw [if_neg (by rw [HHD.out]; exact H35.out), if_neg hby]
        cases gparse line.data.toList <;> rfl
       have HGL := Lib.hid hgl
       clear hgl hby
       go_wp2_with fail
       refine (parse_any line (by omega) w1 (HG.out.below HB1.out) (HP.out.below HB1.out) (HW.out.below HB1.out) (HN.out.below HB1.out) (HSP.out.next HB1.out)).mono ?_
       rintro e w3 hR
       unfold ParseTo at hR
       cases hgp : gparse line.data.toList with
       | error c =>
         rw [hgp] at hR
         obtain ⟨rfl, hb3⟩ := hR
         have HRN : Hid (gline line.data.toList = .error c) := HGL.out _ (by rw [hgp])
         have HB3 := Lib.hid (belowT HB1.out hb3)
         clear hgp hb3
         go_wp2_with fail
         go_ret2
         show LineTo _ _ _ _ _
         unfold LineTo
         rw [HRN.out]
         exact ⟨rfl, HB3.out.alloc HB3.out.size _⟩
       | ok hd =>
         obtain ⟨h, d⟩ := hd
         rw [hgp] at hR
         obtain ⟨v3, rfl, hO3, hb3⟩ := hR
         have HRN : Hid (gline line.data.toList = .ok (encH h d)) := HGL.out _ (by rw [hgp])
         have hok := gparse_ok hgp
         obtain ⟨A3, k3, rfl, hB3⟩ := hO3.bs hok.2.1
         have HOK := Lib.hid hok
         have HB3 := Lib.hid (belowT HB1.out hb3)
         have HBS := Lib.hid hB3
         clear hgp hb3 hok hO3 hB3
         have hne : ((d.length : Nat) : Int) = szF h.ty h.ln := by
          obtain ⟨_, _, _, h1, h2⟩ := HOK.out
          unfold szF
          split
          · rename_i h0; have := h1 (by omega); omega
          · rename_i h0; rw [h2 (by omega)]; rfl
         have HNE := Lib.hid hne
         clear hne
         go_wp2_with fail
         refine (fbytes_yes h.ver h.ty h.fl h.st h.ln A3 d.length k3 d _ (HBS.out.next ba_) (by omega) (by have := HOK.out.1.fl; omega) (by omega) (by have := HOK.out.1.st; omega) (by omega) (by have := HOK.out.1.ln; omega) HNE.out).mono ?_
         rintro e w4 ⟨v4, rfl, hO4, hb4⟩
         have HB4 := Lib.hid (belowT (HB3.out.alloc HB3.out.size _) hb4)
         have HO4 := Lib.hid (hO4.lower (HB3.out.alloc HB3.out.size _).size)
         clear hO4 hb4
         go_wp2_with fail
         go_ret2
         show LineTo _ _ _ _ _
         unfold LineTo
         rw [HRN.out]
         exact ⟨_, rfl, HO4.out, HB4.out⟩
end Go.Proofs.YtidmgckmphcegaaGreatDoor
/-
 tap.Assemble.
-/
namespace Go.Proofs.YtidmgckmphcegaaGreatDoor
open Go.RowKit Go.Proofs.YtidmgckmphcegaaGreatDoorW.PrintWords Go.Proofs.YtidmgckmphcegaaGreatDoorW.PrintLast
set_option linter.unusedVariables false
set_option linter.unusedSimpArgs false
def sumL (ws : List (List UInt8)) : Nat := (ws.map List.length).sum
theorem spl_sum (c : UInt8) : ∀ l : List UInt8, sumL (spl c l) ≤ l.length
 | [] => by simp [spl, sumL]
 | b :: l => by
   have ih := spl_sum c l
   unfold spl
   split
   · simp [sumL] at ih ⊢; omega
   · split
     · rename_i h; exact absurd h (spl_ne c l)
     · rename_i x xs h
       rw [h] at ih
       simp [sumL] at ih ⊢; omega
theorem sumL_take (ws : List (List UInt8)) (k : Nat) (x : List UInt8) (h : ws[k]? = some x) : sumL (ws.take (k + 1)) = sumL (ws.take k) + x.length := by
 unfold sumL
 rw [List.take_add_one, h]
 simp
theorem sumL_le (ws : List (List UInt8)) (k : Nat) : sumL (ws.take k) ≤ sumL ws := by
 unfold sumL
 have := List.take_append_drop k ws
 conv => rhs; rw [← this]
 rw [List.map_append, List.sum_append]; omega
theorem read_len {l : List UInt8} {d : List Int} (h : read l = some d) : d.length ≤ l.length := by
 obtain ⟨h1, _⟩ := read_sound h
 have := (toldL_len d).2
 rw [← h1]
 unfold told
 split
 · rename_i e; subst e; simp
 · exact this
theorem gline_len {l : List UInt8} {b : List Int} (h : gline l = .ok b) : b.length ≤ l.length + 12 := by
 unfold gline at h
 split at h
 · injection h with h; subst h; simp
 · split at h
   · injection h with h; subst h; simp
   · split at h
     · split at h
       · split at h
         · cases h
         · rename_i d hr
           injection h with h; subst h
           have := read_len hr
           simp at this; omega
       · cases h
     · split at h
       · cases h
       · rename_i hd d hp
         injection h with h; subst h
         have he : (encH hd d).length = 12 + d.length := by simp [encH, enc]; omega
         rw [he]
         obtain ⟨_, hb, hl, h1, h2⟩ := gparse_ok hp
         by_cases h0 : hd.ty = 0
         · have : (lineB hd d).length = l.length := by rw [hl]
           unfold lineB at this
           rw [if_pos h0, List.length_append, List.length_cons] at this
           have := (toldL_len d).2
           have ht : d.length ≤ (told d).length := by
            unfold told; split
            · rename_i e; subst e; simp
            · exact this
           omega
         · rw [h2 h0]; simp
def AsmTo (sa : Nat → Addr) (w : World) (l : List UInt8) (e : Ending) (w' : World) : Prop :=
 match gasm l with
 | .error c => e = .returned (.tuple #[.slice none 0 0, sv (sa c)]) ∧ Below w.heap.size w w'
 | .ok b => ∃ v, e = .returned (.tuple #[v, .nilIface]) ∧ Own w' w.heap.size v b ∧ Below w.heap.size w w'
structure ALoop (w wr : World) (ls : List (List UInt8)) (k : Nat) (v : Value) (out : List Int) : Prop where
 own : Own wr (w.heap.size + 1) v out
 sz : w.heap.size + 1 ≤ wr.heap.size
 byt : ∀ x ∈ out, 0 ≤ x ∧ x ≤ 255
 go : gasmL ls [] = gasmL (ls.drop k) out
 bel : Below w.heap.size w wr
 len : out.length ≤ 12 * k + sumL (ls.take k)
 lines : ∀ j x, ls[j]? = some x → wr.cell? ⟨w.heap.size, j, none⟩ = some (.string ⟨x.toArray⟩)
set_option maxRecDepth 100000 in
set_option maxHeartbeats 2000000 in
theorem asm_any {sa : Nat → Addr} (text : ByteArray) (hs : text.size < 4294967281) (w : World) (hG : Good w sa) (hP : Pow10 w) (hW : Words w) (hN : NErr w) (hM : MaxL w) :
    Calls Tryz.prog 24 #[.string text] w (AsmTo sa w text.data.toList) := by
 have hsp : Splits 10 text w := splits_small 10 text w hs hM
 unfold Splits at hsp
 obtain ⟨ls, hls⟩ : ∃ ls, ls = spl 10 text.data.toList := ⟨_, rfl⟩
 have hcount := spl_count 10 text.data.toList
 have hsum := spl_sum 10 text.data.toList
 have hlen := spl_len 10 text.data.toList
 have htl : text.data.toList.length = text.size := by simp
 rw [← hls] at hsp hcount hsum hlen
 obtain ⟨pc, hpc⟩ : ∃ pc, pc = ls.map fun l => Value.string ⟨l.toArray⟩ := ⟨_, rfl⟩
 have hcells := spl_cells w ls
 rw [← hpc] at hsp hcells
 obtain ⟨w1, hw1⟩ : ∃ w1, w1 = w.alloc (.cells pc.toArray 9) := ⟨_, rfl⟩
 rw [← hw1] at hsp hcells
 have hA0 : ALoop w w1 ls 0 (.slice none 0 0) [] := by
  refine ⟨World.ownsRow_nil _ _ _ _, by rw [hw1]; simp, by simp, rfl, by rw [hw1]; exact (Below.refl _ _).alloc (Nat.le_refl _) _, by simp, fun j x hj => ?_⟩
  have := hcells j x hj
  rwa [Nat.zero_add] at this
 have HA0 := Lib.hid hA0
 have HLS := Lib.hid hls
 have HLEN := Lib.hid hlen
 have HSP := Lib.hid hsp
 have HG := Lib.hid hG
 have HP := Lib.hid hP
 have HW := Lib.hid hW
 have HN := Lib.hid hN
 have HM := Lib.hid hM
 clear hG hP hW hN hM hsp hcells hw1 hpc hA0 hls hlen
 go_enter Tryz.func24, Tryz.ntmps24
 go_wp2_with fail
 refine HSP.out.mono ?_
 rintro e w2 ⟨rfl, rfl⟩
 go_wp2_with fail
 go_loopw [4, 12] (fun v i wr => ∃ (k : Nat) (out : List Int), k ≤ ls.length ∧ i = .int .i64 k ∧ Hid (ALoop w wr ls k v out)) (fun _ i _ => ls.length - (intOf i).toNat)
 case atStart => exact ⟨0, [], by omega, rfl, HA0.out⟩
 case round =>
  obtain ⟨k, out, hk, rfl, HR⟩ := hrel
  by_cases hlt : k < ls.length
  · have hlt' : (k : Int) < ls.length := by omega
    obtain ⟨x, hx⟩ : ∃ x, ls[k]? = some x := ⟨_, List.getElem?_eq_getElem hlt⟩
    obtain ⟨X, hX⟩ : ∃ X : ByteArray, X = ⟨x.toArray⟩ := ⟨_, rfl⟩
    have hXl : X.data.toList = x := by rw [hX]
    have hXs : X.size ≤ 4294967296 := by
     have h1 := HLEN.out x (List.mem_of_getElem? hx)
     have h2 : X.data.toList.length = X.size := by simp
     rw [hXl] at h2
     omega
    have cx : wr.cell? ⟨w.heap.size, k, none⟩ = some (.string X) := by rw [hX]; exact HR.out.lines k x hx
    have hdr : ls.drop k = x :: ls.drop (k + 1) := by
     rw [List.drop_eq_getElem_cons hlt]
     congr 1
     rw [List.getElem?_eq_getElem hlt] at hx
     exact Option.some.inj hx
    have hst := sumL_take ls k x hx
    have hsl := sumL_le ls (k + 1)
    have hxl : x.length ≤ text.data.toList.length := HLEN.out x (List.mem_of_getElem? hx)
    have HXL := Lib.hid hXl
    have HDR := Lib.hid hdr
    have HST := Lib.hid hst
    have hwz : w.heap.size + 1 ≤ wr.heap.size := HR.out.sz
    clear hx hX hXl hdr hst
    go_wp2_with fail
    refine (written_any X hXs wr (HG.out.below HR.out.bel) (HP.out.below HR.out.bel) (HW.out.below HR.out.bel) (HN.out.below HR.out.bel) (fun W hb => splits_small 32 X W (by have : X.data.toList.length = X.size := (by simp); rw [HXL.out] at this; omega) ((HM.out.below HR.out.bel).below hb))).mono ?_
    rintro e w3 hL
    rw [HXL.out] at hL
    unfold LineTo at hL
    cases hgl : gline x with
    | error c =>
      rw [hgl] at hL
      obtain ⟨rfl, hb3⟩ := hL
      have HRN : Hid (gasm text.data.toList = .error c) := by
       show gasm _ = _
       unfold gasm
       rw [← HLS.out, HR.out.go, HDR.out, gasmL, hgl]
      have HB3 := Lib.hid (belowT HR.out.bel hb3)
      clear hgl hb3
      go_wp2_with fail
      go_ret2
      show AsmTo _ _ _ _ _
      unfold AsmTo
      rw [HRN.out]
      exact ⟨rfl, HB3.out⟩
    | ok b =>
      rw [hgl] at hL
      obtain ⟨v3, rfl, hO3, hb3⟩ := hL
      have hby := gline_bytes hgl
      have hbl := gline_len hgl
      obtain ⟨A3, k3, rfl, hB3⟩ := hO3.bs hby
      have hgo : gasmL ls [] = gasmL (ls.drop (k + 1)) (out ++ b) := by rw [HR.out.go, HDR.out, gasmL, hgl]
      have HGO := Lib.hid hgo
      have HBY := Lib.hid hby
      have HB3 := Lib.hid (belowT HR.out.bel hb3)
      have HB03 := Lib.hid hb3
      have HBS := Lib.hid hB3
      have HOU := Lib.hid (HR.out.own.next hb3)
      have hol := HR.out.len
      have hwz3 : w.heap.size + 1 ≤ w3.heap.size := Nat.le_trans HR.out.sz hb3.size
      have hbnd : out.length + b.length ≤ 140737488355328 := by have := HST.out; omega
      clear hgl hb3 hby hO3 hB3 hgo
      go_wp2_with (at_builtin; go_loud (refine wpList_append_bs rfl _ _ rfl (w.heap.size + 1) u4 out rfl HOU.out A3 b.length k3 b rfl HBS.out hbnd hwz3 ?_; intro v4 w4 ho4 hg4 _; have HB4 := Lib.hid (HB3.out.grown hg4 (by omega) (fun j hj => by have := (HOU.out.lt j hj).1; omega)); have HO4 := Lib.hid ho4; have HG4 := Lib.hid hg4; clear ho4 hg4))
      go_roundw
      case rel =>
       refine ⟨k + 1, out ++ b, by omega, by go_num, HO4.out, Nat.le_trans hwz3 HG4.out.size, ?_, HGO.out, HB4.out, ?_, ?_⟩
       · intro y hy
         rcases List.mem_append.1 hy with hy | hy
         · exact HR.out.byt y hy
         · exact HBY.out y hy
       · rw [List.length_append, HST.out]; omega
       · intro j x hj
         have h1 := keepA HB03.out (HR.out.lines j x hj)
         rw [HG4.out.cell_far _ (World.block_lt_of_cell? _ _ h1) (fun e => by have := (HOU.out.lt _ e.symm).1; simp only at this; omega)]
         exact h1
      case measure => simp [intOf]; omega
  · obtain rfl : k = ls.length := by omega
    have hd : decide ((ls.length : Int) < (ls.length : Int)) = false := by simp
    have HRN : Hid (gasm text.data.toList = .ok out) := by
     show gasm _ = _
     unfold gasm
     rw [← HLS.out, HR.out.go, List.drop_length, gasmL]
    go_wp2_with fail
    go_ret2
    show AsmTo _ _ _ _ _
    unfold AsmTo
    rw [HRN.out]
    exact ⟨_, rfl, HR.out.own.lower (by omega), HR.out.bel⟩
end Go.Proofs.YtidmgckmphcegaaGreatDoor
