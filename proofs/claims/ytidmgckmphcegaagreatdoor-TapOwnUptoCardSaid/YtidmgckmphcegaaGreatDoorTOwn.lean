/-
 TapOwn, walked: what is handed in stays, what is answered is new memory, two taps don't touch each other.
-/
import Derived.Test.YtidmgckmphcegaaGreatDoorTApart26
import Derived.Test.YtidmgckmphcegaaGreatDoorTAssem
import Derived.Test.YtidmgckmphcegaaGreatDoorTParses
import Derived.Test.YtidmgckmphcegaaGreatDoorTCopied
import Derived.Test.YtidmgckmphcegaaGreatDoorTRTold
namespace Go.Proofs.YtidmgckmphcegaaGreatDoor
open Go Go.RowKit Go.Proofs.YtidmgckmphcegaaGreatDoorW.PrintWords Go.Proofs.YtidmgckmphcegaaGreatDoorW.PrintLast Go.Proofs.YtidmgckmphcegaaGreatDoor.Px
set_option linter.unusedVariables false
set_option linter.unusedSimpArgs false
theorem bulk_frame {H : Type} {dh db : DataW H} {n : Nat} (h : db = .nil ∧ n = 0 ∨ ∃ es sp, db = .slice es sp ∧ es.length = n) : n ≤ Rows.uptoBulk (.agg [dh, db]) := by
 rcases h with ⟨rfl, rfl⟩ | ⟨es, sp, rfl, rfl⟩
 · exact Nat.zero_le _
 · have h1 := bulk_len es
   simp only [Rows.uptoBulk, Rows.uptoBulkAll]
   omega
def lnS (h : Hd) (xs : List Int) : ByteArray := if (xs.length : Int) = szF h.ty h.ln then ⟨(lineB ⟨h.ver, h.ty, h.fl, h.st, h.ln⟩ xs).toArray⟩ else ⟨#[]⟩
def lnC (h : Hd) (xs : List Int) : Nat := if (xs.length : Int) = szF h.ty h.ln then 0 else 15
def lnE (sa : Nat → Addr) (h : Hd) (xs : List Int) : Value := if (xs.length : Int) = szF h.ty h.ln then .nilIface else sv (sa 15)
theorem lineO {sa : Nat → Addr} {w : World} (hE : TE sa w) (h : Hd) (ho : h.Ok) {A : Option Addr} {n c : Nat} {xs : List Int} (hB : Bs w A n c xs) :
    Calls Tryz.prog 17 #[frm h.ver h.ty h.fl h.st h.ln A n c] w fun e w' => e = .returned (.tuple #[.string (lnS h xs), lnE sa h xs]) ∧ Below w.heap.size w w' := by
 have o0 := ho.ver
 have o1 := ho.ty
 have o2 := ho.fl
 have o3 := ho.st
 have o4 := ho.ln
 obtain rfl := hB.len
 refine (line_any h.ver h.ty h.fl h.st h.ln A xs.length c xs w hE.good hE.pow hE.wrd hB.toRd (by omega) (by omega) (by omega) (by omega) (by omega)).mono ?_
 rintro e w' ⟨rfl, hb⟩
 refine ⟨?_, hb⟩
 unfold lnS lnE
 split <;> rfl
theorem rlineO {w : World} (h : Hd) (ho : h.Ok) {A : Option Addr} {n c : Nat} {xs : List Int} (hB : Bs w A n c xs) :
    Calls Tryz.prog 16 #[frm h.ver h.ty h.fl h.st h.ln A n c] w fun e w' => e = .returned (.tuple #[.string (lnS h xs), .int .i64 (lnC h xs)]) ∧ Below w.heap.size w w' := by
 have o0 := ho.ver
 have o1 := ho.ty
 have o2 := ho.fl
 have o3 := ho.st
 have o4 := ho.ln
 obtain rfl := hB.len
 refine (rline26_any h.ver h.ty h.fl h.st h.ln A xs.length c xs w hB (by omega) (by omega) (by omega) (by omega) (by omega)).mono ?_
 rintro e w' ⟨rfl, hb⟩
 refine ⟨?_, hb⟩
 unfold lnS lnC
 split <;> rfl
theorem lnEV (sa : Nat → Addr) (w : World) (h : Hd) (xs : List Int) : EV sa w (lnC h xs) 0 (lnE sa h xs) := by
 unfold lnC lnE
 split
 · exact .inl ⟨rfl, rfl⟩
 · exact EV_c (.inr (.inr rfl))
theorem rparO (s : ByteArray) (hs : s.size < 8796093022208) (w : World) {hd : Hd} {d : List Int} (hq : pfr s.data.toList = (hd, d)) : Calls Tryz.prog 20 #[.string s] w fun e w' => ∃ A c k, e = .returned (.tuple #[frm hd.ver hd.ty hd.fl hd.st hd.ln A d.length c, .int .i64 k]) ∧ OB w' w.heap.size A c d ∧ Below w.heap.size w w' := by
 refine (rparse_any s hs w).mono ?_
 rintro e w' ⟨hb, he⟩
 rw [parse_eq] at he
 have hx := pfr_byt s.data.toList
 rw [hq] at hx
 unfold pfr at hq
 cases hg : gparse s.data.toList with
 | error c =>
   rw [hg] at he hq
   injection hq with q1 q2
   subst q1 q2
   exact ⟨none, 0, _, he, ⟨bs_nil _, fun a ha => by cases ha⟩, hb⟩
 | ok x =>
   rw [hg] at he hq
   obtain rfl : x = (hd, d) := hq
   obtain ⟨A, c, e1, hR⟩ := he
   exact ⟨A, c, _, e1, OB.of_R hR hx, hb⟩
theorem parse_len {l : List UInt8} {h : Hd} {d : List Int} (hp : gparse l = .ok (h, d)) : d.length ≤ l.length := by
 obtain ⟨_, hb, hl, h1, h2⟩ := gparse_ok hp
 by_cases h0 : h.ty = 0
 · have : (lineB h d).length = l.length := by rw [hl]
   unfold lineB at this
   rw [if_pos h0, List.length_append, List.length_cons] at this
   have := (toldL_len d).2
   have ht : d.length ≤ (told d).length := by
    unfold told; split
    · rename_i e; subst e; simp
    · exact this
   omega
 · rw [h2 h0]; simp
theorem afr_byt (l : List UInt8) : ∀ x ∈ afr l, 0 ≤ x ∧ x ≤ 255 := by
 unfold afr
 cases h : gasm l with
 | error _ => simp
 | ok x => exact gasm_byt h
theorem asmO {sa : Nat → Addr} {w : World} (hE : TE sa w) (s : ByteArray) (hs : s.size < 4294967281) : Calls Tryz.prog 24 #[.string s] w fun e w' => ∃ A c ev, e = .returned (.tuple #[.slice A (afr s.data.toList).length c, ev]) ∧ OW w' w.heap.size A c (afr s.data.toList) ∧ Below w.heap.size w w' := by
 refine (asm_any s hs w hE.good hE.pow hE.wrd hE.ner hE.mxl).mono ?_
 intro e w' he
 have hx := afr_byt s.data.toList
 unfold AsmTo at he
 unfold afr at hx ⊢
 cases hg : gasm s.data.toList with
 | error c =>
   rw [hg] at he
   exact ⟨none, 0, _, he.1, OW.nil _ _, he.2⟩
 | ok x =>
   rw [hg] at he hx
   obtain ⟨v, rfl, ho, hb⟩ := he
   obtain ⟨A, c, rfl, hq⟩ := OW.of_own ho hx
   exact ⟨A, c, _, rfl, hq, hb⟩
theorem rasmO (s : ByteArray) (hs : s.size < 4294967281) (w : World) : Calls Tryz.prog 23 #[.string s] w fun e w' => ∃ A c k, e = .returned (.tuple #[.slice A (afr s.data.toList).length c, .int .i64 k]) ∧ OB w' w.heap.size A c (afr s.data.toList) ∧ Below w.heap.size w w' := by
 refine (rasm_any s hs w).mono ?_
 rintro e w' ⟨hb, he⟩
 have hx := afr_byt s.data.toList
 unfold afr at hx ⊢
 cases hg : gasm s.data.toList with
 | error c =>
   rw [hg] at he
   exact ⟨none, 0, _, he, ⟨bs_nil _, fun a ha => by cases ha⟩, hb⟩
 | ok x =>
   rw [hg] at he hx
   obtain ⟨v, rfl, ho⟩ := he
   obtain ⟨A, c, rfl, hq⟩ := OB.of_own ho hx
   exact ⟨A, c, _, rfl, hq, hb⟩
set_option maxRecDepth 100000 in
set_option maxHeartbeats 8000000 in
theorem tapOwn_walk {sa : Nat → Addr} {w : World} (hE : TE sa w) (h : Hd) (ho : h.Ok) (A : Option Addr) (n c : Nat) (xs : List Int) (hB : Bs w A n c xs) (hn : n ≤ 1048576) (s : ByteArray) (hs : s.size ≤ 1048576) (A2 : Option Addr) (n2 c2 : Nat) (ps : List (List Int)) (hP : Pcs w A2 n2 c2 ps) (hps : (ps.map List.length).sum + n2 ≤ 10000000) :
    Calls Tryz.prog 10 #[frm h.ver h.ty h.fl h.st h.ln A n c, .string s, .slice A2 n2 c2] w fun e w' => e = .returned (.bool true) ∧ Below w.heap.size w w' := by
 obtain rfl := hB.len
 obtain ⟨w1, hw1, hb1, hx1⟩ := fbox w h.ver h.ty h.fl h.st h.ln (.slice A xs.length c)
 have HXB := Lib.hid hB.byt
 have HE := Lib.hid hE
 have HW1 := Lib.hid hw1
 have HB1 := Lib.hid hb1
 have HX1 := Lib.hid hx1
 have HBS := Lib.hid hB
 have HP := Lib.hid hP
 have HO := Lib.hid ho
 have HS := Lib.hid hs
 have HPS := Lib.hid hps
 clear hE hw1 hb1 hx1 hB hP ho hs hps
 go_enter Tryz.func10, Tryz.ntmps10
 go_wp2_with fail
 rw [← HW1.out]
 refine (wakes_any (HE.out.below HB1.out)).mono ?_
 rintro e w2 ⟨rfl, hb2⟩
 have HB2 := Lib.hid (belowT HB1.out hb2)
 have HX2 := Lib.hid (keepB hb2 HX1.out)
 clear hb2 HW1 HB1 HX1
 obtain ⟨a0, a1, a2, a3, a4, a5⟩ := FB.of_blk HX2.out
 have a5' := fun o => cell?_alloc_old o a5
 go_wp2_with (at_builtin; first | (refine wpList_append_bs rfl _ _ rfl w2.heap.size (.slice (some ⟨w2.heap.size, 0, none⟩) 0 0) [] rfl (own_new w2 w2.heap.size [] (Nat.le_refl _) (by simp)) A xs.length c xs rfl ((HBS.out.next HB2.out).next ba_) (by simp <;> omega) (by simp) ?_; intro v3 w3 ho3 hg3 _; have HB3 := Lib.hid (show Below w2.heap.size w2 w3 from ba_.grown hg3 (by simp) (fun k hk => by simp [Value.ownBlock] at hk; omega)); have HO3 := Lib.hid (show Own w3 w2.heap.size v3 xs from ho3); clear ho3 hg3) | (refine wpList_append_bs rfl _ _ rfl w2.heap.size v3 xs rfl (HO3.out.next ba_) (some ⟨w3.heap.size, 0, none⟩) 2 2 [170, 187] rfl (two_bs w3) (by omega) (by have := HB3.out.size; simp; omega) ?_; intro v4 w4 ho4 hg4 _; have HB4 := Lib.hid (show Below w2.heap.size w2 w4 from (HB3.out.alloc HB3.out.size _).grown hg4 (by have := HB3.out.size; simp; omega) (fun k hk => (HO3.out.blk k hk).1)); obtain ⟨gF, cF, rfl, hF4⟩ := Full.of ho4; have HF4 := Lib.hid hF4; have HX4 := Lib.hid (keepB HB4.out HX2.out); obtain ⟨b0, b1, b2, b3, b4, b5⟩ := FB.of_blk HX4.out; have hcc : xs.length ≤ cF := (by have := hF4.cr.le; omega); have hcm : cF ≤ 9223372036854775807 := hF4.cr.max; clear ho4 hg4 hF4 a0 a1 a2 a3 a4 a5 a5' HO3 HB3))
 obtain ⟨w5, hw5, hb5, hx5⟩ := fbox w4 h.ver h.ty h.fl h.st h.ln (.slice (some ⟨gF, 0, none⟩) xs.length cF)
 rw [← hw5]
 have HB5 := Lib.hid (belowT (belowT HB2.out HB4.out) hb5)
 have HF5 := Lib.hid (HF4.out.below hb5)
 have HX5 := Lib.hid (keepB hb5 HX4.out)
 have HG5 := Lib.hid hx5
 have hgF : gF ≠ w.heap.size ∧ gF ≠ w4.heap.size := ⟨by have := HF4.out.ge; have := (Array.getElem?_eq_some_iff.1 HX2.out).1; omega, by have := HF4.out.lt; omega⟩
 have hw4 : w.heap.size ≤ w4.heap.size := (belowT HB2.out HB4.out).size
 have hwF : w.heap.size ≤ gF := by have := HF4.out.ge; have := HB2.out.size; omega
 clear hw5 hb5 hx5 b0 b1 b2 b3 b4 b5 HF4 HX4 HX2
 refine (lineO (HE.out.below HB5.out) h HO.out (HF5.out.bs HXB.out)).mono ?_
 rintro e w6 ⟨rfl, hb6⟩
 have HB6 := Lib.hid (belowT HB5.out hb6)
 have HF6 := Lib.hid (HF5.out.below hb6)
 have HX6 := Lib.hid (keepB hb6 HX5.out)
 have HG6 := Lib.hid (keepB hb6 HG5.out)
 clear hb6 HB5 HF5 HX5 HG5
 obtain ⟨a0, a1, a2, a3, a4, a5⟩ := FB.of_blk HX6.out
 go_wp2_with fail
 refine (rlineO h HO.out (HBS.out.next HB6.out)).mono ?_
 rintro e w7 ⟨rfl, hb7⟩
 have HB7 := Lib.hid (belowT HB6.out hb7)
 have HF7 := Lib.hid (HF6.out.below hb7)
 have HX7 := Lib.hid (keepB hb7 HX6.out)
 have HG7 := Lib.hid (keepB hb7 HG6.out)
 clear hb7 HB6 HF6 HX6 HG6 a0 a1 a2 a3 a4 a5
 have HEV := Lib.hid (fun W => lnEV sa W h xs)
 generalize lnS h xs = sl
 generalize lnE sa h xs = ev at *
 generalize lnC h xs = cc at *
 have hj0 : (0 : Int) ≤ (xs.length : Int) := by omega
 have hj1 : (xs.length : Int) < (xs.length : Int) + 2 := by omega
 have hj2 : (xs.length : Int) + 1 < (xs.length : Int) + 2 := by omega
 have hj3 : (0 : Int) ≤ (xs.length : Int) + 1 := by omega
 have hj4 : ((xs.length : Int) + 1).toNat = xs.length + 1 := by omega
 have hwr : IntKind.i64.wrap ((xs.length : Int) + 1) = xs.length + 1 := by rw [IntKind.wrap_i64]; omega
 have HQ1 := Lib.hid (HF7.out.bs HXB.out)
 have HQ2 := Lib.hid (HBS.out.next HB7.out)
 go_wp2_with fail
 refine start_ (n := 34) (S := fun w' => w'.cell? ⟨w.heap.size, 5, none⟩ = some (.slice A xs.length c) ∧ w'.cell? ⟨gF, xs.length, none⟩ = some (.int .u8 170) ∧ w'.cell? ⟨gF, xs.length + 1, none⟩ = some (.int .u8 187) ∧ Bs w' (some ⟨gF, 0, none⟩) xs.length cF xs ∧ Bs w' A xs.length c xs ∧ Hid (Below w7.heap.size w7 w')) (ds := []) (bM 34 0) (by kernel_rfl) rfl rfl (⟨cell_blk HX7.out rfl, HF7.out.c0, HF7.out.c1, HQ1.out.next (Below.refl _ _).drew, HQ2.out.next (Below.refl _ _).drew, Lib.hid (Below.refl _ _).drew⟩) (fun hHeld => ?_)
 refine pu_ 0 54 ?_ (bM 34 1) rfl rfl (by kernel_rfl) (.inl ⟨by rfl, ?_⟩) ?_ ?_ ?_; rotate_left
 · intro w'; go_simp; with_reducible rfl
 rotate_left
 · simp only [pA_, i64_w]; rfl
 refine pu_ 1 55 ?_ (bM 34 3) rfl rfl (by kernel_rfl) (.inl ⟨by rfl, ?_⟩) ?_ ?_ ?_; rotate_left
 · intro w'; go_simp; with_reducible rfl
 rotate_left
 · simp only [pA_, i64_w]; rfl
 refine pu_ 2 56 ?_ (bM 34 7) rfl rfl (by kernel_rfl) (.inl ⟨by rfl, ?_⟩) ?_ ?_ ?_; rotate_left
 · intro w'; go_simp; with_reducible rfl
 rotate_left
 · simp only [pA_, i64_w]; rfl
 refine pu_ 3 57 ?_ (bM 34 15) rfl rfl (by kernel_rfl) (.inl ⟨by rfl, ?_⟩) ?_ ?_ ?_; rotate_left
 · intro w'; go_simp; with_reducible rfl
 rotate_left
 · simp only [pA_, i64_w]; rfl
 refine pu_ 4 58 ?_ (bM 34 31) rfl rfl (by kernel_rfl) (.inl ⟨by rfl, ?_⟩) ?_ ?_ ?_; rotate_left
 · intro w'; go_simp; with_reducible rfl
 rotate_left
 · simp only [pA_, i64_w]; rfl
 refine pu_ 6 60 ?_ (bM 34 95) rfl rfl (by kernel_rfl) (.inl ⟨by rfl, ?_⟩) ?_ ?_ ?_; rotate_left
 · intro w'; go_simp; with_reducible rfl
 rotate_left
 · simp only [pA_, i64_w]; rfl
 refine one_ (i := 5) (N := some 59) (bM 34 127) rfl rfl (by kernel_rfl) (by decide) (fun K hK => ?_)
 refine goes_ Tryz.func19 (by kernel_rfl) rfl #[ev] (by rfl) rfl rfl (by simp only [List.map_toArray, List.map_cons, List.map_nil]; rfl) ?_
 with_reducible refine (code_any (HE.out.below (belowT HB7.out hHeld.2.2.2.2.2.out)).good (HEV.out _)).mono ?_
 rintro e w8 ⟨rfl, hw8⟩
 refine ⟨_, rfl, ?_⟩
 subst hw8
 refine hK.out _ _ (hHeld) (fun hHeld => ?_)
 clear hK K
 refine norm_ (a' := ?_) ?_ ?_
 rotate_left
 · show Act.put _ (some 59) _ = _
   simp only [pA_, i64_w]
   rfl
 refine pu_ 7 61 ?_ (bM 34 255) rfl rfl (by kernel_rfl) (.inl ⟨by rfl, ?_⟩) ?_ ?_ ?_; rotate_left
 · intro w'; go_simp; with_reducible rfl
 rotate_left
 · simp only [pA_, i64_w]; rfl
 refine pu_ 8 62 ?_ (bM 34 511) rfl rfl (by kernel_rfl) (.inl ⟨by rfl, ?_⟩) ?_ ?_ ?_; rotate_left
 · intro w'; go_simp; with_reducible rfl
 rotate_left
 · simp only [pA_, i64_w]; rfl
 refine pu_ 9 63 ?_ (bM 34 1023) rfl rfl (by kernel_rfl) (.inl ⟨by rfl, ?_⟩) ?_ ?_ ?_; rotate_left
 · intro w'; go_simp; with_reducible rfl
 rotate_left
 · simp only [pA_, i64_w]; rfl
 refine pu_ 10 64 ?_ (bM 34 2047) rfl rfl (by kernel_rfl) (.inl ⟨by rfl, ?_⟩) ?_ ?_ ?_; rotate_left
 · intro w'; go_simp; with_reducible rfl
 rotate_left
 · simp only [pA_, i64_w]; rfl
 refine pu_ 11 65 ?_ (bM 34 4095) rfl rfl (by kernel_rfl) (.inl ⟨by rfl, ?_⟩) ?_ ?_ ?_; rotate_left
 · intro w'; go_simp; with_reducible rfl
 rotate_left
 · simp only [pA_, i64_w]; rfl
 refine pu_ 12 66 ?_ (bM 34 8191) rfl rfl (by kernel_rfl) (.inl ⟨by rfl, ?_⟩) ?_ ?_ ?_; rotate_left
 · intro w'; go_simp; with_reducible rfl
 rotate_left
 · simp only [pA_, i64_w]; rfl
 refine pu_ 14 68 ?_ (bM 34 24575) rfl rfl (by kernel_rfl) (.inl ⟨by rfl, ?_⟩) ?_ ?_ ?_; rotate_left
 · intro w'; go_simp; with_reducible rfl
 rotate_left
 · simp only [pA_, i64_w]; rfl
 refine tk_ 13 67 ?_ (bM 34 32767) rfl rfl (by kernel_rfl) (.inl ⟨by rfl, ?_⟩) hHeld ?_ ?_ ?_
 rotate_left
 · rintro w' ⟨s0, s1, s2, s3, s4, s5⟩
   refine (conv_runB (by rfl) (by rfl) s3).trans ?_
   with_reducible rfl
 rotate_left
 · simp only [pA_, i64_w]
   rfl
 refine tk_ 15 69 ?_ (bM 34 65535) rfl rfl (by kernel_rfl) (.inl ⟨by rfl, ?_⟩) hHeld ?_ ?_ ?_; rotate_left
 · rintro w' ⟨s0, s1, s2, s3, s4, s5⟩; go_simp; with_reducible rfl
 rotate_left
 · simp only [pA_, i64_w]; rfl
 refine tk_ 16 70 ?_ (bM 34 131071) rfl rfl (by kernel_rfl) (.inl ⟨by rfl, ?_⟩) hHeld ?_ ?_ ?_
 rotate_left
 · rintro w' ⟨s0, s1, s2, s3, s4, s5⟩
   refine (conv_runB (by rfl) (by rfl) s4).trans ?_
   with_reducible rfl
 rotate_left
 · simp only [pA_, i64_w]
   rfl
 refine pu_ 17 71 ?_ (bM 34 262143) rfl rfl (by kernel_rfl) (.inl ⟨by rfl, ?_⟩) ?_ ?_ ?_; rotate_left
 · intro w'; go_simp; with_reducible rfl
 rotate_left
 · simp only [pA_, i64_w]; rfl
 refine pu_ 18 72 ?_ (bM 34 524287) rfl rfl (by kernel_rfl) (.inl ⟨by rfl, ?_⟩) ?_ ?_ ?_; rotate_left
 · intro w'; go_simp; with_reducible rfl
 rotate_left
 · simp only [pA_, i64_w]; rfl
 refine pu_ 19 73 ?_ (bM 34 1048575) rfl rfl (by kernel_rfl) (.inl ⟨by rfl, ?_⟩) ?_ ?_ ?_; rotate_left
 · intro w'; go_simp; with_reducible rfl
 rotate_left
 · simp only [pA_, i64_w]; rfl
 refine pu_ 20 74 ?_ (bM 34 2097151) rfl rfl (by kernel_rfl) (.inl ⟨by rfl, ?_⟩) ?_ ?_ ?_; rotate_left
 · intro w'; go_simp; with_reducible rfl
 rotate_left
 · simp only [pA_, i64_w]; rfl
 refine pu_ 21 75 ?_ (bM 34 4194303) rfl rfl (by kernel_rfl) (.inl ⟨by rfl, ?_⟩) ?_ ?_ ?_; rotate_left
 · intro w'; go_simp; with_reducible rfl
 rotate_left
 · simp only [pA_, i64_w]; rfl
 refine pu_ 22 76 ?_ (bM 34 8388607) rfl rfl (by kernel_rfl) (.inl ⟨by rfl, ?_⟩) ?_ ?_ ?_; rotate_left
 · intro w'; go_simp; with_reducible rfl
 rotate_left
 · simp only [pA_, i64_w]; rfl
 refine tk_ 23 77 ?_ (bM 34 16777215) rfl rfl (by kernel_rfl) (.inl ⟨by rfl, ?_⟩) hHeld ?_ ?_ ?_; rotate_left
 · rintro w' ⟨s0, s1, s2, s3, s4, s5⟩; go_simp; with_reducible rfl
 rotate_left
 · simp only [pA_, i64_w]; rfl
 refine pu_ 24 78 ?_ (bM 34 33554431) rfl rfl (by kernel_rfl) (.inl ⟨by rfl, ?_⟩) ?_ ?_ ?_; rotate_left
 · intro w'; go_simp; with_reducible rfl
 rotate_left
 · simp only [pA_, i64_w]; rfl
 refine pu_ 25 79 ?_ (bM 34 67108863) rfl rfl (by kernel_rfl) (.inl ⟨by rfl, ?_⟩) ?_ ?_ ?_; rotate_left
 · intro w'; go_simp; with_reducible rfl
 rotate_left
 · simp only [pA_, i64_w]; rfl
 refine pu_ 26 80 ?_ (bM 34 134217727) rfl rfl (by kernel_rfl) (.inl ⟨by rfl, ?_⟩) ?_ ?_ ?_; rotate_left
 · intro w'; go_simp; with_reducible rfl
 rotate_left
 · simp only [pA_, i64_w]; rfl
 refine pu_ 27 81 ?_ (bM 34 268435455) rfl rfl (by kernel_rfl) (.inl ⟨by rfl, ?_⟩) ?_ ?_ ?_; rotate_left
 · intro w'; go_simp; with_reducible rfl
 rotate_left
 · simp only [pA_, i64_w]; rfl
 refine pu_ 28 82 ?_ (bM 34 536870911) rfl rfl (by kernel_rfl) (.inl ⟨by rfl, ?_⟩) ?_ ?_ ?_; rotate_left
 · intro w'; go_simp; with_reducible rfl
 rotate_left
 · simp only [pA_, i64_w]; rfl
 refine pu_ 29 83 ?_ (bM 34 1073741823) rfl rfl (by kernel_rfl) (.inl ⟨by rfl, ?_⟩) ?_ ?_ ?_; rotate_left
 · intro w'; go_simp; with_reducible rfl
 rotate_left
 · simp only [pA_, i64_w]; rfl
 refine pu_ 30 84 ?_ (bM 34 2147483647) rfl rfl (by kernel_rfl) (.inl ⟨by rfl, ?_⟩) ?_ ?_ ?_; rotate_left
 · intro w'; go_simp; with_reducible rfl
 rotate_left
 · simp only [pA_, i64_w]; rfl
 refine tk_ 31 85 ?_ (bM 34 4294967295) rfl rfl (by kernel_rfl) (.inl ⟨by rfl, ?_⟩) hHeld ?_ ?_ ?_; rotate_left
 · rintro w' ⟨s0, s1, s2, s3, s4, s5⟩; go_simp; with_reducible rfl
 rotate_left
 · simp only [pA_, i64_w]; rfl
 refine pu_ 32 86 ?_ (bM 34 8589934591) rfl rfl (by kernel_rfl) (.inl ⟨by rfl, ?_⟩) ?_ ?_ ?_; rotate_left
 · intro w'; go_simp; with_reducible rfl
 rotate_left
 · simp only [pA_, i64_w]; rfl
 refine pu_ 33 87 ?_ (bM 34 17179869183) rfl rfl (by kernel_rfl) (.inl ⟨by rfl, ?_⟩) ?_ ?_ ?_; rotate_left
 · intro w'; go_simp; with_reducible rfl
 rotate_left
 · simp only [pA_, i64_w]; rfl
 refine done_ (by kernel_rfl) ?_
 clear hHeld hj0 hj1 hj2 hj3 hj4 hwr HQ1 HQ2
 go_wp2_with fail
 obtain ⟨w8, hw8⟩ : ∃ w8, w8 = w7.drew := ⟨_, rfl⟩
 have hb8 : Below w7.heap.size w7 w8 := by rw [hw8]; exact (Below.refl _ _).drew
 have HB8 := Lib.hid (belowT HB7.out hb8)
 have HF8 := Lib.hid (HF7.out.below hb8)
 have HG8 := Lib.hid (keepB hb8 HG7.out)
 rw [← hw8]
 clear hw8 hb8 HB7 HF7 HX7 HG7 HB4
 go_loopw [90] (fun ii wi => ∃ (i : Nat) (f : Nat → Int), ii = .int .i64 i ∧ i ≤ xs.length + 2 ∧ Hid (CR wi gF 0 (xs.length + 2) cF f) ∧ Hid (∀ j, j < i → f j = 126) ∧ Hid (Spr w8 wi gF 0)) (fun ii _ => xs.length + 2 - (intOf ii).toNat)
 case atStart => exact ⟨0, _, rfl, by omega, Lib.hid HF8.out.cr, Lib.hid (fun j hj => absurd hj (by omega)), Lib.hid (Spr.refl _ _ _)⟩
 case round =>
  obtain ⟨i, f, rfl, hi, HC, HFF, HSP⟩ := hrel
  rename World => wi
  have hlF : gF < wi.heap.size := Nat.lt_of_lt_of_le HF8.out.lt HSP.out.size
  by_cases hin : i < xs.length + 2
  · have hd2 : decide ((i : Int) < (xs.length : Int) + 2) = true := by simp; omega
    have hk0 : (0 : Int) ≤ (i : Int) := by omega
    have hk1 : (i : Int) < (xs.length : Int) + 2 := by omega
    have hci := HC.out.rd i hin
    have hfr := (HC.out.there i (by have := HC.out.le; omega)).2
    have hC2 := HC.out.set hlF hin 126
    rw [Nat.zero_add] at hci hfr hC2
    have HC2 := Lib.hid hC2
    clear hC2
    go_wp2_with fail
    go_roundw
    case rel =>
     refine ⟨i + 1, _, by go_num, by omega, HC2, Lib.hid (fun j hj => ?_), Lib.hid (HSP.out.trans (Spr.set (Nat.zero_le _) _))⟩
     show (if j = i then (126 : Int) else f j) = 126
     by_cases e : j = i
     · rw [if_pos e]
     · rw [if_neg e]; exact HFF.out j (by omega)
    case measure => simp [intOf]; omega
  · obtain rfl : i = xs.length + 2 := by omega
    have hd2 : decide ((xs.length : Int) + 2 < (xs.length : Int) + 2) = false := by simp
    obtain ⟨ts, hts⟩ : ∃ ts : List Int, ts = List.replicate xs.length 126 := ⟨_, rfl⟩
    have htl : ts.length = xs.length := by rw [hts]; simp
    have HBi := Lib.hid (HB8.out.trans (HSP.out.below hwF HB8.out.size))
    have HGi := Lib.hid ((HSP.out.block _ (Array.getElem?_eq_some_iff.1 HG8.out).1 (fun e => hgF.2 e.symm)).trans HG8.out)
    have hti : Bs wi (some ⟨gF, 0, none⟩) xs.length cF ts := (HC.out.pre (Nat.le_add_right _ _)).bsx htl (fun j hj => by rw [HFF.out j (by omega), hts]; simp [List.getD_eq_getElem?_getD, hj]) (fun x hx => by rw [hts] at hx; have := List.eq_of_mem_replicate hx; omega)
    have HTI := Lib.hid hti
    have htn : ts.length ≤ 140737488355328 := by omega
    obtain ⟨hd, d, hpf⟩ : ∃ hd d, pfr s.data.toList = (hd, d) := ⟨_, _, rfl⟩
    have HPF := Lib.hid hpf
    have hsl1 : s.size < 8796093022208 := by have := HS.out; omega
    have hsl2 : s.size < 4294967281 := by have := HS.out; omega
    have hsl3 : s.size ≤ 4294967280 := by omega
    clear hti hts HC HFF HSP HF8 HG8 hlF hpf
    obtain ⟨c0, c1, c2', c3, c4, c5⟩ := FB.of_blk HGi.out
    go_wp2_with fail
    refine (copied_any h.ver h.ty h.fl h.st h.ln HTI.out (by omega)).mono ?_
    rintro e w9 ⟨A9, c9, rfl, hq9, hb9⟩
    obtain ⟨w10, hw10, hb10, hx10⟩ := fbox w9 h.ver h.ty h.fl h.st h.ln (.slice A9 xs.length c9)
    have HB10 := Lib.hid (belowT (belowT HBi.out hb9) hb10)
    have HT10 := Lib.hid (HTI.out.next (belowT hb9 hb10))
    have HQ10 := Lib.hid (hq9.next hb10)
    have HX10 := Lib.hid hx10
    have HG10 := Lib.hid (keepB (belowT hb9 hb10) HGi.out)
    have HW10 := Lib.hid hw10
    clear hw10 hb10 hx10 hq9 hb9 c0 c1 c2' c3 c4 c5 HTI HGi HBi
    obtain ⟨c0, c1, c2', c3, c4, c5⟩ := FB.of_blk HG10.out
    rw [HW10.out] at c0 c1 c2' c3 c4 c5
    go_wp2_with fail
    rw [← HW10.out]
    refine (lineO (HE.out.below HB10.out) h HO.out HT10.out).mono ?_
    rintro e w11 ⟨rfl, hb11⟩
    have HB11 := Lib.hid (belowT HB10.out hb11)
    have HQ11 := Lib.hid (HQ10.out.next hb11)
    have HX11 := Lib.hid (keepB hb11 HX10.out)
    clear hb11 c0 c1 c2' c3 c4 c5 HW10 HB10 HT10 HQ10 HX10 HG10
    obtain ⟨c0, c1, c2', c3, c4, c5⟩ := FB.of_blk HX11.out
    go_wp2_with fail
    refine (rlineO h HO.out HQ11.out).mono ?_
    rintro e w12 ⟨rfl, hb12⟩
    have HB12 := Lib.hid (belowT HB11.out hb12)
    clear hb12 c0 c1 c2' c3 c4 c5 HB11 HQ11 HX11
    generalize lnS h ts = sl2
    generalize lnE sa h ts = ev2 at *
    generalize lnC h ts = cc2 at *
    go_wp2_with fail
    refine (tparse (HE.out.below HB12.out) s hsl3).mono ?_
    intro e w13 hp13
    obtain ⟨Aa, ca, eva, rfl, hoa, hb13⟩ := hp13.any HPF.out
    obtain ⟨w14, hw14, hb14, hx14⟩ := fbox w13 hd.ver hd.ty hd.fl hd.st hd.ln (.slice Aa d.length ca)
    have HB14 := Lib.hid (belowT (belowT HB12.out hb13) hb14)
    have HA14 := Lib.hid (hoa.next hb14)
    have HXa14 := Lib.hid hx14
    have HW14 := Lib.hid hw14
    have hla : ∀ a, Aa = some a → w.heap.size ≤ a.block ∧ a.block < w13.heap.size := fun a ha => ⟨Nat.le_trans HB12.out.size (hoa.ob.new a ha), hoa.lt a ha⟩
    have HLA := Lib.hid hla
    clear hw14 hb14 hx14 hoa hb13 hp13 hla
    go_wp2_with fail
    rw [← HW14.out]
    refine (tparse (HE.out.below HB14.out) s hsl3).mono ?_
    intro e w15 hp15
    obtain ⟨Ab, cb, evb, rfl, hob, hb15⟩ := hp15.any HPF.out
    obtain ⟨w16, hw16, hb16, hx16⟩ := fbox w15 hd.ver hd.ty hd.fl hd.st hd.ln (.slice Ab d.length cb)
    have HB16 := Lib.hid (belowT (belowT HB14.out hb15) hb16)
    have HA16 := Lib.hid (HA14.out.next (belowT hb15 hb16))
    have HXa16 := Lib.hid (keepB (belowT hb15 hb16) HXa14.out)
    have HXb16 := Lib.hid hx16
    have HOb16 := Lib.hid (hob.ob.next hb16)
    have HW16 := Lib.hid hw16
    have h1314 : w13.heap.size < w14.heap.size := (Array.getElem?_eq_some_iff.1 HXa14.out).1
    have h1415 : w14.heap.size ≤ w15.heap.size := hb15.size
    clear hw16 hb16 hx16 hob hb15 hp15 HW14 HA14 HXa14
    go_wp2_with fail
    rw [← HW16.out]
    refine (asmO (HE.out.below HB16.out) s hsl2).mono ?_
    rintro e w17 ⟨Ax, cx, evx, rfl, hox, hb17⟩
    have HB17 := Lib.hid (belowT HB16.out hb17)
    have HA17 := Lib.hid (HA16.out.next hb17)
    have HXa17 := Lib.hid (keepB hb17 HXa16.out)
    have HXb17 := Lib.hid (keepB hb17 HXb16.out)
    have HOb17 := Lib.hid (HOb16.out.next hb17)
    have HOx17 := Lib.hid hox
    have HB16s := HB16.out.size
    have h1617' : w16.heap.size ≤ w17.heap.size := hb17.size
    have h1617 : w15.heap.size < w16.heap.size := (Array.getElem?_eq_some_iff.1 HXb16.out).1
    have hlx : ∀ a, Ax = some a → w16.heap.size ≤ a.block ∧ a.block < w17.heap.size := fun a ha => ⟨hox.ob.new a ha, hox.lt a ha⟩
    have HLX := Lib.hid hlx
    have hzx := hox.ob.bs.cap
    clear hox hb17 hlx HW16 HA16 HXa16 HXb16 HOb16
    go_wp2_with fail
    refine (asmO (HE.out.below HB17.out) s hsl2).mono ?_
    rintro e w18 ⟨Ay, cy, evy, rfl, hoy, hb18⟩
    have HB18 := Lib.hid (belowT HB17.out hb18)
    have HA18 := Lib.hid (HA17.out.next hb18)
    have HXa18 := Lib.hid (keepB hb18 HXa17.out)
    have HXb18 := Lib.hid (keepB hb18 HXb17.out)
    have HOb18 := Lib.hid (HOb17.out.next hb18)
    have HOx18 := Lib.hid (HOx17.out.next hb18)
    have HOy18 := Lib.hid hoy.ob
    have h1718 : w17.heap.size ≤ w18.heap.size := hb18.size
    clear hoy hb18 HA17 HXa17 HXb17 HOb17 HOx17
    go_wp2_with fail
    refine (rparO s hsl1 w18 HPF.out).mono ?_
    rintro e w19 ⟨Ap, cp, kp, rfl, hop, hb19⟩
    obtain ⟨w20, hw20, hb20, hx20⟩ := fbox w19 hd.ver hd.ty hd.fl hd.st hd.ln (.slice Ap d.length cp)
    have hb1820 := belowT hb19 hb20
    have HB20 := Lib.hid (belowT HB18.out hb1820)
    have HA20 := Lib.hid (HA18.out.next hb1820)
    have HXa20 := Lib.hid (keepB hb1820 HXa18.out)
    have HXb20 := Lib.hid (keepB hb1820 HXb18.out)
    have HXp20 := Lib.hid hx20
    have HOb20 := Lib.hid (HOb18.out.next hb1820)
    have HOx20 := Lib.hid (HOx18.out.next hb1820)
    have HOy20 := Lib.hid (HOy18.out.next hb1820)
    have HOp20 := Lib.hid (hop.next hb20)
    have HW20 := Lib.hid hw20
    have h1819 : w18.heap.size ≤ w19.heap.size := hb19.size
    have h1920 : w19.heap.size < w20.heap.size := (Array.getElem?_eq_some_iff.1 HXp20.out).1
    clear hop hb19 hb20 hx20 hw20 hb1820 HA18 HXa18 HXb18 HOb18 HOx18 HOy18
    go_wp2_with fail
    rw [← HW20.out]
    refine (rasmO s hsl2 w20).mono ?_
    rintro e w21 ⟨Az, cz, kz, rfl, hoz, hb21⟩
    have HB21 := Lib.hid (belowT HB20.out hb21)
    have HA21 := Lib.hid (HA20.out.next hb21)
    have HXa21 := Lib.hid (keepB hb21 HXa20.out)
    have HXb21 := Lib.hid (keepB hb21 HXb20.out)
    have HXp21 := Lib.hid (keepB hb21 HXp20.out)
    have HOb21 := Lib.hid (HOb20.out.next hb21)
    have HOx21 := Lib.hid (HOx20.out.next hb21)
    have HOy21 := Lib.hid (HOy20.out.next hb21)
    have HOp21 := Lib.hid (HOp20.out.next hb21)
    have HOz21 := Lib.hid hoz
    have h2021 : w20.heap.size ≤ w21.heap.size := hb21.size
    clear hoz hb21 HA20 HXa20 HXb20 HXp20 HOb20 HOx20 HOy20 HOp20 HW20
    have c5 : w21.cell? ⟨w13.heap.size, 5, none⟩ = some (.slice Aa d.length ca) := cell_blk HXa21.out rfl
    have hse2 : (sl2.toList != sl2.toList) = false := by simp
    go_wp2_with fail
    have hdn : d.length ≤ 1000000000 := by
     have h1 := HPF.out
     unfold pfr at h1
     cases hg : gparse s.data.toList with
     | error k => rw [hg] at h1; injection h1 with _ h2; rw [← h2]; simp
     | ok z =>
       rw [hg] at h1
       obtain rfl : z = (hd, d) := h1
       have := parse_len hg
       have h3 : s.data.toList.length = s.size := by simp
       have := HS.out
       omega
    have hdx : (afr s.data.toList).length ≤ 1000000000 := by
     unfold afr
     cases hg : gasm s.data.toList with
     | error k => simp
     | ok z =>
       have := gasm_len hg
       have h3 : s.data.toList.length = s.size := by simp
       have := HS.out
       show z.length ≤ _
       omega
    refine (spoiled_ow HA21.out hdn).mono ?_
    rintro e w22 ⟨rfl, haw⟩
    have HLA2 := Lib.hid (fun z hz => (HLA.out z hz).2)
    have HXb22 := Lib.hid ((haw.block _ (Array.getElem?_eq_some_iff.1 HXb21.out).1 (fun z hz e => by have := HLA2.out z hz; omega)).trans HXb21.out)
    have HXp22 := Lib.hid ((haw.block _ (Array.getElem?_eq_some_iff.1 HXp21.out).1 (fun z hz e => by have := HLA2.out z hz; omega)).trans HXp21.out)
    have HOb22 := Lib.hid (HOb21.out.aw haw (fun z hz => by have := HLA2.out z hz; omega))
    have HOx22 := Lib.hid (HOx21.out.aw haw (fun z hz => by have := HLA2.out z hz; omega))
    have HOy22 := Lib.hid (HOy21.out.aw haw (fun z hz => by have := HLA2.out z hz; omega))
    have HOp22 := Lib.hid (HOp21.out.aw haw (fun z hz => by have := HLA2.out z hz; omega))
    have HOz22 := Lib.hid (HOz21.out.aw haw (fun z hz => by have := HLA2.out z hz; omega))
    have HB22 := Lib.hid (HB21.out.trans (haw.below HB21.out.size (fun z hz => (HLA.out z hz).1)))
    clear haw HXa21 HXb21 HXp21 HOb21 HOx21 HOy21 HOp21 HOz21 HA21 c5
    obtain ⟨b0, b1, b2, b3, b4, b5⟩ := FB.of_blk HXb22.out
    obtain ⟨p0, p1, p2, p3, p4, p5⟩ := FB.of_blk HXp22.out
    go_wp2_with fail
    refine (same04 hd.ver hd.ty hd.fl hd.st hd.ln hd.ver hd.ty hd.fl hd.st hd.ln HOb22.out.bs HOp22.out.bs).mono ?_
    rintro e w23 ⟨bb, rfl, hbb, hb23⟩
    obtain rfl : bb = true := hbb.2 ⟨rfl, rfl⟩
    have HB23 := Lib.hid (belowT HB22.out hb23)
    have HOx23 := Lib.hid (HOx22.out.next hb23)
    have HOy23 := Lib.hid (HOy22.out.next hb23)
    have HOz23 := Lib.hid (HOz22.out.next hb23)
    clear hbb hb23 b0 b1 b2 b3 b4 b5 p0 p1 p2 p3 p4 p5 HOb22 HOx22 HOy22 HOp22 HOz22 HXb22 HXp22
    go_wp2_with fail
    refine (spoiled_ow HOx23.out hdx).mono ?_
    rintro e w24 ⟨rfl, haw⟩
    have HB24 := Lib.hid (HB23.out.trans (haw.below HB23.out.size (fun z hz => Nat.le_trans HB16s (HLX.out z hz).1)))
    have HY24 := Lib.hid (str_of (HOy23.out.aw haw (fun z hz => (HLX.out z hz).2)).bs)
    have HZ24 := Lib.hid (str_of (HOz23.out.aw haw (fun z hz => by have := (HLX.out z hz).2; omega)).bs)
    clear haw HOx23 HOy23 HOz23
    go_wp2_with fail
    rw [HY24.out]
    go_wp2_with fail
    rw [HZ24.out]
    go_wp2_with fail
    refine (apart26_any (HE.out.below HB24.out) (HP.out.next HB24.out) (by have := HPS.out; omega)).mono ?_
    rintro e w25 ⟨rfl, hb25⟩
    have HB25 := Lib.hid (belowT HB24.out hb25)
    clear hb25
    go_wp2_with fail
    go_ret
    exact ⟨rfl, HB25.out⟩
end Go.Proofs.YtidmgckmphcegaaGreatDoor
