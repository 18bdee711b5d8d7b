/-
 culvertref25.Told, culvertref26.Line.
-/
import Derived.Test.YtidmgckmphcegaaGreatDoorMG
import Derived.Test.YtidmgckmphcegaaGreatDoorRText
import Derived.Test.YtidmgckmphcegaaGreatDoorMB
import Derived.Test.YtidmgckmphcegaaGreatDoorMD
namespace Go.Proofs.YtidmgckmphcegaaGreatDoor
open Go.RowKit Go.Proofs.YtidmgckmphcegaaGreatDoorW.PrintWords Go.Proofs.YtidmgckmphcegaaGreatDoorW.PrintLast
set_option linter.unusedVariables false
set_option linter.unusedSimpArgs false
theorem rplain_any (x : Int) (h0 : 0 ≤ x) (h1 : x ≤ 255) (w : World) :
    Calls Tryz.prog 85 #[.int .u8 x] w fun e w' => e = .returned (.bool (plainN x.toNat)) ∧ w' = w := by
 have e : plainN x.toNat = (decide (33 ≤ x) && decide (x ≤ 126) && (x != 37)) := by
  unfold plainN
  rw [Bool.eq_iff_iff]
  simp only [Bool.and_eq_true, decide_eq_true_eq, bne_iff_ne, ne_eq]
  omega
 have E := Lib.hid e
 clear e
 go_enter Tryz.func85, Tryz.ntmps85
 go_wp2_with fail
 all_goals (go_ret; refine ⟨?_, rfl⟩; rw [E.out]; clear E)
 all_goals (first | rfl | (congr 2; simp; omega))
theorem rdigit_any (m : Nat) (hm : m < 16) (w : World) :
    Calls Tryz.prog 86 #[.int .i64 m] w fun e w' => e = .returned (.string ⟨#[hexC m]⟩) ∧ w' = w := by
 obtain rfl | rfl | rfl | rfl | rfl | rfl | rfl | rfl | rfl | rfl | rfl | rfl | rfl | rfl | rfl | rfl : m = 0 ∨ m = 1 ∨ m = 2 ∨ m = 3 ∨ m = 4 ∨ m = 5 ∨ m = 6 ∨ m = 7 ∨ m = 8 ∨ m = 9 ∨ m = 10 ∨ m = 11 ∨ m = 12 ∨ m = 13 ∨ m = 14 ∨ m = 15 := by omega
 all_goals
  go_enter Tryz.func86, Tryz.ntmps86
  go_wp2_with fail
  go_ret
  exact ⟨rfl, rfl⟩
theorem rdigit_below (m : Nat) (hm : m < 16) (w : World) :
    Calls Tryz.prog 86 #[.int .i64 m] w fun e w' => e = .returned (.string ⟨#[hexC m]⟩) ∧ Below w.heap.size w w' :=
 (rdigit_any m hm w).mono fun e w' ⟨h1, h2⟩ => ⟨h1, by rw [h2]; exact Below.refl _ _⟩
theorem rdigit_q (x : Nat) (hx : x ≤ 255) (w : World) :
    Calls Tryz.prog 86 #[.int .i64 (wrap64 ((wrap64 (x : Int)).tdiv 16))] w fun e w' => e = .returned (.string ⟨#[hexC (x / 16)]⟩) ∧ Below w.heap.size w w' := by
 have h0 : wrap64 (x : Int) = x := by unfold wrap64; omega
 have h1 : wrap64 ((x : Int).tdiv 16) = ((x / 16 : Nat) : Int) := by
  rw [Int.tdiv_eq_ediv_of_nonneg (by omega)]; unfold wrap64; omega
 rw [h0, h1]
 exact rdigit_below (x / 16) (by omega) w
theorem rdigit_r (x : Nat) (hx : x ≤ 255) (w : World) :
    Calls Tryz.prog 86 #[.int .i64 ((wrap64 (x : Int)).tmod 16)] w fun e w' => e = .returned (.string ⟨#[hexC (x % 16)]⟩) ∧ Below w.heap.size w w' := by
 have h0 : wrap64 (x : Int) = x := by unfold wrap64; omega
 have h1 : (x : Int).tmod 16 = ((x % 16 : Nat) : Int) := by rw [Int.tmod_eq_emod_of_nonneg (by omega)]; omega
 rw [h0, h1]
 exact rdigit_below (x % 16) (by omega) w
set_option maxRecDepth 100000 in
set_option maxHeartbeats 1000000 in
theorem rtold_any {A : Option Addr} {n c : Nat} {xs : List Int} {w : World} (hB : Bs w A n c xs) (hn : n ≤ 4294967295) :
    Calls Tryz.prog 46 #[.slice A n c] w fun e w' => e = .returned (.string ⟨(told xs).toArray⟩) ∧ Below w.heap.size w w' := by
 have hl := hB.len
 have hx := hB.byt
 by_cases h0 : n = 0
 · subst h0
   obtain rfl : xs = [] := List.eq_nil_of_length_eq_zero hl
   clear hB hl hx
   go_enter Tryz.func46, Tryz.ntmps46
   go_wp2_with fail
   go_ret
   exact ⟨rfl, Below.refl _ _⟩
 · obtain ⟨b, o, rfl, hr⟩ := hB.rd (by omega)
   have hcap := hB.cap
   have HB := Lib.hid hB
   have HRD := Lib.hid hr
   have HX := Lib.hid hx
   have HL := Lib.hid hl
   have hne : xs ≠ [] := by intro e; subst e; simp at hl; omega
   have HNE := Lib.hid hne
   have hnz : ((n : Int) == 0) = false := by simp; omega
   clear hB hl hx hr hne
   go_enter Tryz.func46, Tryz.ntmps46
   go_wp2_with fail
   go_loopw [3, 4] (fun sv_ i wr => ∃ k : Nat, k ≤ n ∧ i = .int .i64 k ∧ sv_ = .string ⟨(toldL (xs.take k)).toArray⟩ ∧ Hid (Below w.heap.size w wr)) (fun _ i _ => n - (intOf i).toNat)
   case atStart => exact ⟨0, by omega, rfl, by rw [List.take_zero]; rfl, Lib.hid (Below.refl _ _)⟩
   case round =>
    obtain ⟨k, hk, rfl, rfl, HR⟩ := hrel
    by_cases hlt : k < n
    · have hlt' : (k : Int) < n := by omega
      have hd1 : decide ((k : Int) < n) = true := by simp; omega
      obtain ⟨x, hxk⟩ : ∃ x, x = xs.getD k 0 := ⟨_, rfl⟩
      have hxb := byte_at HX.out hxk
      obtain ⟨xn, rfl⟩ : ∃ xn : Nat, x = xn := ⟨x.toNat, by have := hxb.1; omega⟩
      have hx1 : xn ≤ 255 := by have := hxb.2; omega
      have hc : wr.cell? ⟨b, o + k, none⟩ = some (.int .u8 xn) := by rw [hxk]; exact keepA HR.out (HRD.out k hlt)
      have hkl : k < xs.length := by rw [HL.out]; exact hlt
      have hsn : toldL (xs.take (k + 1)) = toldL (xs.take k) ++ told1 xn := by
       rw [take_snocI xs k hkl, toldL_snoc, hxk, List.getD_eq_getElem?_getD, List.getElem?_eq_getElem hkl]; rfl
      have hlen : (toldL (xs.take k)).length ≤ 3 * 4294967295 := by
       have h1 := (toldL_len (xs.take k)).1
       have h2 : (xs.take k).length ≤ n := by rw [List.length_take, HL.out]; omega
       omega
      have hone : (xs.drop k).take 1 = [(xn : Int)] := by
       rw [List.drop_eq_getElem_cons hkl, List.take_succ_cons, List.take_zero, hxk, List.getD_eq_getElem?_getD, List.getElem?_eq_getElem hkl]; rfl
      have HS := Lib.hid hsn
      have HLN := Lib.hid hlen
      have HXK := Lib.hid hxk
      have HON := Lib.hid hone
      clear hxb hsn hlen hxk hkl hone
      obtain ⟨sl, hsl⟩ : ∃ sl : ByteArray, sl = ⟨(toldL (xs.take k)).toArray⟩ := ⟨_, rfl⟩
      have hss : sl.size ≤ 3 * 4294967295 := by rw [hsl]; show (toldL (xs.take k)).toArray.size ≤ _; rw [List.size_toArray]; exact HLN.out
      rw [← hsl]
      have HSL := Lib.hid hsl
      clear hsl
      go_wp2_with fail
      have hpl := rplain_any (xn : Int) (by omega) (by omega) wr
      refine hpl.mono ?_
      rintro e w1 ⟨rfl, rfl⟩
      clear hpl
      by_cases hp : plainN xn = true
      · have ht : told1 xn = [UInt8.ofNat xn] := by unfold told1; rw [Int.toNat_natCast, if_pos hp]
        have HT := Lib.hid ht
        have hp' : plainN (xn : Int).toNat = true := by rw [Int.toNat_natCast]; exact hp
        clear ht
        go_wp2_with fail
        have hb1 : Bs w1 (some ⟨b, o + k, none⟩) 1 (c - k) [(xn : Int)] := ⟨rfl, by omega, by have := HB.out.max; omega, fun y hy => by simp at hy; omega, fun e => (by cases e), fun _ => ⟨b, o + k, rfl, fun j hj => by
         obtain rfl : j = 0 := by omega
         exact hc⟩⟩
        rw [str_of hb1]
        obtain ⟨t1, ht1⟩ : ∃ t1, t1 = strOfNums [(xn : Int)] := ⟨_, rfl⟩
        have ht1s : t1.size = 1 := by rw [ht1]; rfl
        have hcat : ¬ 9223372036854775807 < sl.size + t1.size := by omega
        rw [← ht1]
        have HT1 := Lib.hid ht1
        clear ht1 hb1
        go_wp2_with fail
        go_roundw
        case rel =>
         refine ⟨k + 1, by omega, by go_num, ?_, HR⟩
         rw [HSL.out, HT1.out, HS.out, HT.out]
         rfl
        case measure => simp [intOf]; omega
      · have hp' : plainN (xn : Int).toNat = false := by rw [Int.toNat_natCast]; simpa using hp
        have ht : told1 xn = [37, hexC (xn / 16), hexC (xn % 16)] := by unfold told1; rw [Int.toNat_natCast, if_neg hp]
        have HT := Lib.hid ht
        clear ht hp
        have hpf : plainN xn = false := by rw [Int.toNat_natCast] at hp'; exact hp'
        have z1 : ¬ 9223372036854775807 < sl.size + 1 := by omega
        have z2 : ¬ 9223372036854775807 < sl.size + 1 + 1 := by omega
        have z3 : ¬ 9223372036854775807 < sl.size + 1 + 1 + 1 := by omega
        have d1 : xn / 16 < 16 := by omega
        have d2 : xn % 16 < 16 := by omega
        go_wp2_with fail
        refine start_ (n := 19) (S := fun w' => w'.cell? ⟨b, o + k, none⟩ = some (.int .u8 xn) ∧ Hid (Below w1.heap.size w1 w')) (ds := [18]) (bM 19 0) (by kernel_rfl) rfl rfl (⟨hc, Lib.hid (Below.refl _ _).drew⟩) (fun hHeld => ?_)
        refine pu_ 0 29 ?_ (bM 19 1) rfl rfl (by kernel_rfl) (.inl ⟨by rfl, ?_⟩) ?_ ?_ ?_; rotate_left
        · intro w'; go_simp; with_reducible rfl
        rotate_left
        · simp only [pA_, i64_w]; rfl
        refine pu_ 1 30 ?_ (bM 19 3) rfl rfl (by kernel_rfl) (.inl ⟨by rfl, ?_⟩) ?_ ?_ ?_; rotate_left
        · intro w'; go_simp; with_reducible rfl
        rotate_left
        · simp only [pA_, i64_w]; rfl
        refine pu_ 2 31 ?_ (bM 19 7) rfl rfl (by kernel_rfl) (.inl ⟨by rfl, ?_⟩) ?_ ?_ ?_; rotate_left
        · intro w'; go_simp; with_reducible rfl
        rotate_left
        · simp only [pA_, i64_w]; rfl
        refine pu_ 3 32 ?_ (bM 19 15) rfl rfl (by kernel_rfl) (.inl ⟨by rfl, ?_⟩) ?_ ?_ ?_; rotate_left
        · intro w'; go_simp; with_reducible rfl
        rotate_left
        · simp only [pA_, i64_w]; rfl
        refine pu_ 4 33 ?_ (bM 19 31) rfl rfl (by kernel_rfl) (.inl ⟨by rfl, ?_⟩) ?_ ?_ ?_; rotate_left
        · intro w'; go_simp; with_reducible rfl
        rotate_left
        · simp only [pA_, i64_w]; rfl
        refine pu_ 10 39 ?_ (bM 19 1055) rfl rfl (by kernel_rfl) (.inl ⟨by rfl, ?_⟩) ?_ ?_ ?_; rotate_left
        · intro w'; go_simp; with_reducible rfl
        rotate_left
        · simp only [pA_, i64_w]; rfl
        refine pu_ 11 40 ?_ (bM 19 3103) rfl rfl (by kernel_rfl) (.inl ⟨by rfl, ?_⟩) ?_ ?_ ?_; rotate_left
        · intro w'; go_simp; with_reducible rfl
        rotate_left
        · simp only [pA_, i64_w]; rfl
        refine pu_ 12 41 ?_ (bM 19 7199) rfl rfl (by kernel_rfl) (.inl ⟨by rfl, ?_⟩) ?_ ?_ ?_; rotate_left
        · intro w'; go_simp; with_reducible rfl
        rotate_left
        · simp only [pA_, i64_w]; rfl
        refine tk_ 5 34 ?_ (bM 19 7231) rfl rfl (by kernel_rfl) (.inl ⟨by rfl, ?_⟩) hHeld ?_ ?_ ?_; rotate_left
        · rintro w' ⟨s0, s1⟩; go_simp; with_reducible rfl
        rotate_left
        · simp only [pA_, i64_w]; rfl
        refine pu_ 6 35 ?_ (bM 19 7295) rfl rfl (by kernel_rfl) (.inl ⟨by rfl, ?_⟩) ?_ ?_ ?_; rotate_left
        · intro w'; go_simp; with_reducible rfl
        rotate_left
        · simp only [pA_, i64_w]; rfl
        refine pu_ 7 36 ?_ (bM 19 7423) rfl rfl (by kernel_rfl) (.inl ⟨by rfl, ?_⟩) ?_ ?_ ?_; rotate_left
        · intro w'; go_simp; with_reducible rfl
        rotate_left
        · simp only [pA_, i64_w]; rfl
        refine tk_ 13 42 ?_ (bM 19 15615) rfl rfl (by kernel_rfl) (.inl ⟨by rfl, ?_⟩) hHeld ?_ ?_ ?_; rotate_left
        · rintro w' ⟨s0, s1⟩; go_simp; with_reducible rfl
        rotate_left
        · simp only [pA_, i64_w]; rfl
        refine pu_ 14 43 ?_ (bM 19 31999) rfl rfl (by kernel_rfl) (.inl ⟨by rfl, ?_⟩) ?_ ?_ ?_; rotate_left
        · intro w'; go_simp; with_reducible rfl
        rotate_left
        · simp only [pA_, i64_w]; rfl
        refine pu_ 15 44 ?_ (bM 19 64767) rfl rfl (by kernel_rfl) (.inl ⟨by rfl, ?_⟩) ?_ ?_ ?_; rotate_left
        · intro w'; go_simp; with_reducible rfl
        rotate_left
        · simp only [pA_, i64_w]; rfl
        refine one_ (i := 8) (N := some 37) (bM 19 65023) rfl rfl (by kernel_rfl) (by decide) (fun K hK => ?_)
        refine goes_ Tryz.func86 (by kernel_rfl) rfl #[.int .i64 (wrap64 ((wrap64 (xn : Int)).tdiv 16))] (by rfl) rfl rfl (by simp only [List.map_toArray, List.map_cons, List.map_nil]; rfl) ?_
        with_reducible refine (rdigit_q xn hx1 _).mono ?_
        rintro e w2 ⟨rfl, hb2⟩
        refine ⟨_, rfl, ?_⟩
        have HB2 := Lib.hid hb2
        clear hb2
        refine hK.out _ _ (⟨keepA HB2.out hHeld.1, Lib.hid (belowT hHeld.2.out HB2.out)⟩) (fun hHeld => ?_)
        clear hK K
        refine norm_ (a' := ?_) ?_ ?_
        rotate_left
        · show Act.put _ (some 37) _ = _
          simp only [pA_, i64_w]
          rfl
        refine pu_ 9 38 ?_ (bM 19 65535) rfl rfl (by kernel_rfl) (.inl ⟨by rfl, ?_⟩) ?_ ?_ ?_; rotate_left
        · intro w'; go_simp; with_reducible rfl
        rotate_left
        · simp only [pA_, i64_w]; rfl
        refine one_ (i := 16) (N := some 45) (bM 19 131071) rfl rfl (by kernel_rfl) (by decide) (fun K hK => ?_)
        refine goes_ Tryz.func86 (by kernel_rfl) rfl #[.int .i64 ((wrap64 (xn : Int)).tmod 16)] (by rfl) rfl rfl (by simp only [List.map_toArray, List.map_cons, List.map_nil]; rfl) ?_
        with_reducible refine (rdigit_r xn hx1 _).mono ?_
        rintro e w3 ⟨rfl, hb3⟩
        refine ⟨_, rfl, ?_⟩
        have HB3 := Lib.hid hb3
        clear hb3
        refine hK.out _ _ (⟨keepA HB3.out hHeld.1, Lib.hid (belowT hHeld.2.out HB3.out)⟩) (fun hHeld => ?_)
        clear hK K
        refine norm_ (a' := ?_) ?_ ?_
        rotate_left
        · show Act.put _ (some 45) _ = _
          simp only [pA_, i64_w]
          rfl
        refine pu_ 17 46 ?_ (bM 19 262143) rfl rfl (by kernel_rfl) (.inl ⟨by rfl, ?_⟩) ?_ ?_ ?_; rotate_left
        · intro w'; go_simp; with_reducible rfl
        rotate_left
        · simp only [pA_, i64_w]; rfl
        refine pu_ 18 3 ?_ (bM 19 524287) rfl rfl (by kernel_rfl) (.inl ⟨by rfl, ?_⟩) ?_ ?_ ?_; rotate_left
        · intro w'; go_simp; with_reducible rfl
        rotate_left
        · simp only [pA_, i64_w]; rfl
        refine done_ (by kernel_rfl) ?_
        have HBf := Lib.hid (belowT HR.out hHeld.2.out)
        clear hHeld HB2 HB3
        go_wp2_with fail
        go_roundw
        case rel =>
         refine ⟨k + 1, by omega, by go_num, ?_, HBf⟩
         rw [HSL.out, HS.out, HT.out]
         refine congrArg Value.string (ba_ls ?_)
         simp [ByteArray.data_append]
        case measure => simp [intOf]; omega
    · obtain rfl : k = n := by omega
      have hd1 : decide ((k : Int) < k) = false := by simp
      have htk : xs.take k = xs := by rw [List.take_of_length_le]; rw [HL.out]; exact Nat.le_refl _
      rw [htk]
      have hto : told xs = toldL xs := by unfold told; rw [if_neg HNE.out]
      rw [← hto]
      go_wp2_with fail
      go_ret
      exact ⟨rfl, HR.out⟩
set_option maxRecDepth 100000 in
set_option maxHeartbeats 1000000 in
theorem rline26_any (ver ty fl st ln : Nat) (A : Option Addr) (n c : Nat) (xs : List Int) (w : World) (hB : Bs w A n c xs) (hver : ver ≤ 255) (hty : ty ≤ 255) (hfl : fl ≤ 65535) (hst : st ≤ 4294967295) (hln : ln ≤ 4294967295) :
    Calls Tryz.prog 16 #[frm ver ty fl st ln A n c] w fun e w' => e = .returned (.tuple (if (n : Int) = szF ty ln then #[.string ⟨(lineB ⟨ver, ty, fl, st, ln⟩ xs).toArray⟩, .int .i64 0] else #[.string ⟨#[]⟩, .int .i64 15])) ∧ Below w.heap.size w w' := by
 obtain ⟨w1, hw1⟩ : ∃ w1, w1 = w.alloc (.cells #[.int .u8 ver, .int .u8 ty, .int .u16 fl, .int .u32 st, .int .u32 ln, .slice A n c] 28) := ⟨_, rfl⟩
 have hx : FB w.heap.size ver ty fl st ln A n c w1 := by rw [hw1]; exact FB.new ..
 have hB1 : Below w.heap.size w w1 := by rw [hw1]; exact (Below.refl _ _).alloc (Nat.le_refl _) _
 have HE := Lib.hid hw1
 have HX := Lib.hid hx
 have HB1 := Lib.hid hB1
 have HBs := Lib.hid (hB.next hB1)
 clear hw1 hx hB1 hB
 go_enter Tryz.func16, Tryz.ntmps16
 obtain ⟨a0, a1, a2, a3, a4, a5⟩ := HX.out
 rw [HE.out] at a0 a1 a2 a3 a4 a5
 go_wp2_with fail
 rw [← HE.out]
 refine (rsize_any ver ty fl st ln _ (by omega) (by omega)).mono ?_
 rintro e w2 ⟨rfl, hb2⟩
 have HX2 := Lib.hid (HX.out.next hb2)
 have HB2 := Lib.hid (belowT HB1.out hb2)
 have HBs2 := Lib.hid (HBs.out.next hb2)
 clear hb2 HX HB1 HBs HE a0 a1 a2 a3 a4 a5
 obtain ⟨a0, a1, a2, a3, a4, a5⟩ := HX2.out
 by_cases hne : (n : Int) = szF ty ln
 · have hd : ((n : Int) != szF ty ln) = false := by simp [hne]
   have hnl : n ≤ 4294967295 := by unfold szF at hne; split at hne <;> omega
   have HNE := Lib.hid hne
   clear hne
   go_wp2_with fail
   refine (rtext_any ver ty fl st ln _ (by omega) (by omega) (by omega) (by omega) (by omega)).mono ?_
   rintro e w3 ⟨rfl, hb3⟩
   have HX3 := Lib.hid (HX2.out.next hb3)
   have HB3 := Lib.hid (belowT HB2.out hb3)
   have HBs3 := Lib.hid (HBs2.out.next hb3)
   clear hb3 HX2 HB2 HBs2 a0 a1 a2 a3 a4 a5
   obtain ⟨a0, a1, a2, a3, a4, a5⟩ := HX3.out
   by_cases ht : ty = 0
   · have hlb : lineB ⟨ver, ty, fl, st, ln⟩ xs = textB ver ty fl st ln ++ 32 :: told xs := by
       show lineB _ _ = _
       unfold lineB
       rw [if_pos ht]; rfl
     have htl : (textB ver ty fl st ln).length ≤ 420 := text_len ver ty fl st ln hver hty hfl hst hln
     have hdl := told_len xs
     rw [HBs3.out.len] at hdl
     have HLB := Lib.hid hlb
     subst ht
     go_wp2_with fail
     refine (rtold_any HBs3.out hnl).mono ?_
     rintro e w4 ⟨rfl, hb4⟩
     have HB4 := Lib.hid (belowT HB3.out hb4)
     obtain ⟨sa, hsa⟩ : ∃ sa : ByteArray, sa = ⟨(textB ver 0 fl st ln).toArray⟩ := ⟨_, rfl⟩
     obtain ⟨sb, hsb⟩ : ∃ sb : ByteArray, sb = ⟨(told xs).toArray⟩ := ⟨_, rfl⟩
     have zs : sa.size ≤ 420 := by rw [hsa]; show (textB ver 0 fl st ln).toArray.size ≤ _; rw [List.size_toArray]; exact htl
     have zt : sb.size ≤ 3 * n + 1 := by rw [hsb]; show (told xs).toArray.size ≤ _; rw [List.size_toArray]; exact hdl
     have y1 : ¬ 9223372036854775807 < sa.size + 1 := by omega
     have y2 : ¬ 9223372036854775807 < sa.size + 1 + sb.size := by omega
     rw [← hsa, ← hsb]
     have HSA := Lib.hid hsa
     have HSB := Lib.hid hsb
     clear hb4 hsa hsb hlb htl hdl a0 a1 a2 a3 a4 a5
     go_wp2_with fail
     go_ret2
     refine ⟨?_, HB4.out⟩
     (try rw [if_pos HNE.out])
     rw [HLB.out, HSA.out, HSB.out]
     refine congrArg Ending.returned (congrArg Value.tuple (congrArg (fun x => #[x, Value.int .i64 0]) (congrArg Value.string (ba_ls ?_))))
     simp [ByteArray.data_append]
   · have hlb : lineB ⟨ver, ty, fl, st, ln⟩ xs = textB ver ty fl st ln := by
       show lineB _ _ = _
       unfold lineB
       rw [if_neg ht]; rfl
     have HLB := Lib.hid hlb
     have ht' : ((ty : Int) == 0) = false := by simp; omega
     clear hlb
     go_wp2_with fail
     go_ret2
     exact ⟨by (try rw [if_pos HNE.out]); rw [HLB.out]; rfl, HB3.out⟩
 · have hd : ((n : Int) != szF ty ln) = true := by simp [hne]
   have HNE := Lib.hid hne
   clear hne
   go_wp2_with fail
   go_ret2
   exact ⟨by (try rw [if_neg HNE.out]); rfl, HB2.out⟩
end Go.Proofs.YtidmgckmphcegaaGreatDoor
