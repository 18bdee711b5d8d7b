/-
 culvertlaw26.spoiled: bytes written over, and grown.
-/
import Derived.Test.YtidmgckmphcegaaGreatDoorTOwnL
namespace Go.Proofs.YtidmgckmphcegaaGreatDoor
open Go Go.RowKit Go.Proofs.YtidmgckmphcegaaGreatDoorW.PrintWords Go.Proofs.YtidmgckmphcegaaGreatDoorW.PrintLast Go.Proofs.YtidmgckmphcegaaGreatDoor.Px
set_option linter.unusedVariables false
set_option linter.unusedSimpArgs false
def SR (w : World) (A : Option Addr) (n c : Nat) (f : Nat → Int) (g : Nat) : Prop := (A = none ∧ n = 0 ∧ c = 0) ∨ (A = some ⟨g, 0, none⟩ ∧ CR w g 0 n c f ∧ g < w.heap.size)
theorem SR.gr {w0 w : World} {A : Option Addr} {n c g : Nat} {f : Nat → Int} (h : SR w A n c f g) : GR w0.heap.size w (.slice A n c) n f g := by
 rcases h with ⟨rfl, rfl, rfl⟩ | ⟨rfl, h1, h2⟩
 · exact .inl ⟨rfl, rfl⟩
 · exact .inr ⟨g, 0, c, rfl, h1, h2, .inl ⟨rfl, rfl⟩⟩
set_option maxRecDepth 100000 in
set_option maxHeartbeats 2000000 in
theorem spoiled_any {w : World} {A : Option Addr} {n c g : Nat} {f : Nat → Int} (h : SR w A n c f g) (hn : n ≤ 1000000000) :
    Calls Tryz.prog 29 #[.slice A n c] w fun e w' => e = .returned (.bool true) ∧ Spr w w' g 0 := by
 have H := Lib.hid h
 clear h
 go_enter Tryz.func29, Tryz.ntmps29
 go_wp2_with fail
 go_loopw [8] (fun ii wi => ∃ (i : Nat) (f : Nat → Int), ii = .int .i64 i ∧ i ≤ n ∧ Hid (SR wi A n c f g) ∧ Hid (Spr w wi g 0)) (fun ii _ => n - (intOf ii).toNat)
 case atStart => exact ⟨0, f, rfl, by omega, H, Lib.hid (Spr.refl _ _ _)⟩
 case round =>
  obtain ⟨i, f, rfl, hi, HG, HS⟩ := hrel
  rename World => wi
  by_cases hlt : i < n
  · have hd : decide ((i : Int) < n) = true := by simp; omega
    have hk0 : (0 : Int) ≤ (i : Int) := by omega
    have hk1 : (i : Int) < (n : Int) := by omega
    obtain ⟨rfl, hC, hb⟩ : A = some ⟨g, 0, none⟩ ∧ CR wi g 0 n c f ∧ g < wi.heap.size := by
     rcases HG.out with h1 | h1
     · omega
     · exact h1
    have hle := hC.le
    have hmx := hC.max
    have hcell := hC.rd i hlt
    have hfr := (hC.there i (by omega)).2
    rw [Nat.zero_add] at hcell hfr
    have hC2 := hC.set hb hlt 92
    rw [Nat.zero_add] at hC2
    have HC := Lib.hid hC2
    clear hC hC2
    go_wp2_with fail
    go_roundw
    case rel => exact ⟨i + 1, _, by go_num, by omega, Lib.hid (.inr ⟨rfl, HC.out, by simpa using hb⟩), Lib.hid (HS.out.trans (Spr.set (Nat.zero_le _) _))⟩
    case measure => simp [intOf]; omega
  · obtain rfl : i = n := by omega
    have hd : decide ((i : Int) < (i : Int)) = false := by simp
    obtain ⟨f', hf'⟩ : ∃ f' : Nat → Int, f' = fun j => if j < i then f j else 93 := ⟨_, rfl⟩
    have HF := Lib.hid (show ∀ j, i ≤ j → f' j = 93 by intro j hj; rw [hf']; show (if j < i then f j else 93) = 93; rw [if_neg (by omega)])
    have HG0 := Lib.hid (show GR wi.heap.size wi (.slice A i c) i f' g from (HG.out.gr (w0 := wi)).congr fun j hj => by rw [hf']; show f j = if j < i then f j else 93; rw [if_pos hj])
    clear hf'
    go_wp2_with fail
    go_loopw [4, 5] (fun gv kk wk => ∃ k : Nat, kk = .int .i64 k ∧ k ≤ 40 ∧ Hid (GR wi.heap.size wk gv (i + k) f' g) ∧ Hid (Spr wi wk g 0)) (fun _ kk _ => 40 - (intOf kk).toNat)
    case atStart => exact ⟨0, rfl, by omega, HG0, Lib.hid (Spr.refl _ _ _)⟩
    case round =>
     obtain ⟨k, rfl, hk, HK, HP⟩ := hrel
     by_cases hlt2 : k < 40
     · have hd2 : decide ((k : Int) < 40) = true := by simp; omega
       go_wp2_with (at_builtin; go_loud (refine gr_append (W0 := wi) rfl _ _ rfl u4 (i + k) 0 g f' 93 rfl rfl HK.out HP.out (by omega) (HF.out _ (by omega)) (by omega) (by omega) (by omega) ?_; intro gv1 wk1 hg1 hs1; have HG1 := Lib.hid hg1; have HS1 := Lib.hid hs1; clear hg1 hs1))
       go_roundw
       case rel => exact ⟨k + 1, by go_num, by omega, Lib.hid (by rw [← Nat.add_assoc]; exact HG1.out), HS1⟩
       case measure => simp [intOf]; omega
     · obtain rfl : k = 40 := by omega
       have hd2 : decide (((40 : Nat) : Int) < 40) = false := by decide
       have HSE := Lib.hid (HS.out.trans HP.out)
       obtain ⟨A4, c4, hv4⟩ : ∃ A c, u4 = .slice A (i + 40) c := by
        rcases HK.out with ⟨e1, e2⟩ | ⟨b, o, c, e, _⟩
        · omega
        · exact ⟨_, c, e⟩
       subst hv4
       have hw40 : wrap64 ((i : Int) + 40) = i + 40 := by unfold wrap64; omega
       have hee : ((((i + 40 : Nat) : Int)) == (i : Int) + 40) = true := by simp
       go_wp2_with fail
       go_ret
       exact ⟨rfl, HSE.out⟩
structure Aw (w w1 : World) (A : Option Addr) : Prop where
 os : w1.os = w.os
 tape : w1.tape = w.tape
 output : w1.output = w.output
 size : w.heap.size ≤ w1.heap.size
 block : ∀ k, k < w.heap.size → (∀ a, A = some a → a.block ≠ k) → w1.heap[k]? = w.heap[k]?
theorem Aw.below {w w1 : World} {A : Option Addr} {B : Nat} (h : Aw w w1 A) (hB : B ≤ w.heap.size) (hA : ∀ a, A = some a → B ≤ a.block) : Below B w w1 :=
 ⟨h.os, h.tape, h.output, h.size, fun k hk => h.block k (by omega) fun a ha e => by have := hA a ha; omega⟩
structure OW (w : World) (B : Nat) (A : Option Addr) (c : Nat) (xs : List Int) : Prop where
 ob : OB w B A c xs
 lt : ∀ a, A = some a → a.block < w.heap.size
 sr : ∃ f g, SR w A xs.length c f g
theorem SR.below {w w1 : World} {A : Option Addr} {n c g : Nat} {f : Nat → Int} (h : SR w A n c f g) (hb : Below w.heap.size w w1) : SR w1 A n c f g :=
 h.imp id fun ⟨h1, h2, h3⟩ => ⟨h1, h2.below h3 hb, Nat.lt_of_lt_of_le h3 hb.size⟩
theorem OW.next {w w1 : World} {B : Nat} {A : Option Addr} {c : Nat} {xs : List Int} (h : OW w B A c xs) (hb : Below w.heap.size w w1) : OW w1 B A c xs :=
 ⟨h.ob.next hb, fun a ha => Nat.lt_of_lt_of_le (h.lt a ha) hb.size, by obtain ⟨f, g, hs⟩ := h.sr; exact ⟨f, g, hs.below hb⟩⟩
theorem OB.aw {w w1 : World} {B : Nat} {A A' : Option Addr} {c : Nat} {xs : List Int} (h : OB w B A c xs) (ha : Aw w w1 A') (hn : ∀ a, A' = some a → a.block < B) : OB w1 B A c xs := by
 refine ⟨h.bs.blk fun a ha' hx => ?_, h.new⟩
 obtain ⟨b', o', e, hr⟩ := h.bs.rd hx
 have h1 := h.new a ha'
 have h2 : a.block < w.heap.size := by
  have := World.block_lt_of_cell? w _ (hr 0 hx)
  rw [ha'] at e
  injection e with e
  rw [e]
  exact this
 exact ha.block _ h2 fun z hz e => by have := hn z hz; omega
theorem OW.aw {w w1 : World} {B : Nat} {A A' : Option Addr} {c : Nat} {xs : List Int} (h : OW w B A c xs) (ha : Aw w w1 A') (hn : ∀ a, A' = some a → a.block < B) : OW w1 B A c xs := by
 refine ⟨h.ob.aw ha hn, fun a hA => Nat.lt_of_lt_of_le (h.lt a hA) ha.size, ?_⟩
 obtain ⟨f, g, hs⟩ := h.sr
 refine ⟨f, g, hs.imp id fun ⟨h1, h2, h3⟩ => ⟨h1, h2.blk (ha.block g h3 fun z hz e => ?_), Nat.lt_of_lt_of_le h3 ha.size⟩⟩
 have h4 := hn z hz
 have h5 := h.ob.new _ h1
 simp at h5
 omega
theorem OW.of_own {w : World} {B : Nat} {v : Value} {xs : List Int} (h : Own w B v xs) (hx : ∀ x ∈ xs, 0 ≤ x ∧ x ≤ 255) : ∃ A c, v = .slice A xs.length c ∧ OW w B A c xs := by
 obtain ⟨A, c, e, hq⟩ := OB.of_own h hx
 rcases h.2 with ⟨h1, h0⟩ | ⟨g, cap, cur, h1, hb, hh, hnc, hm, hs, ht⟩
 · refine ⟨A, c, e, hq, fun a ha => ?_, fun _ => 0, 0, .inl ?_⟩
   · rw [h1] at e; injection e with e1 _ _; rw [ha] at e1; cases e1
   · rw [h1] at e; injection e with e1 _ e2; exact ⟨e1.symm, h0, e2.symm⟩
 · have hlt := (Array.getElem?_eq_some_iff.1 hh).1
   refine ⟨A, c, e, hq, fun a ha => ?_, fun j => xs.getD j 0, g, .inr ?_⟩
   · rw [h1] at e; injection e with e1 _ _; rw [ha] at e1; injection e1 with e1; rw [← e1]; exact hlt
   · rw [h1] at e
     injection e with e1 _ e2
     subst e1 e2
     refine ⟨rfl, ⟨hnc, by simpa [maxLen] using hm, fun j hj => ?_, fun j hj => ?_⟩, hlt⟩
     · have hown : w.ownsRow B 5 1 (.slice (some ⟨g, 0, none⟩) xs.length cap) xs.length (nums .u8 xs) := by rw [← h1]; exact h
       rw [Nat.zero_add, hown.cellAt j (by omega)]
       simp [nums, List.getD_eq_getElem?_getD, List.getElem?_eq_getElem hj]
     · have hj' : j < cur.size := by omega
       exact ⟨by simp [World.cell?, hh, hj'], by simp [World.frozen?, hh]⟩
theorem OW.nil (w : World) (B : Nat) : OW w B none 0 [] := ⟨⟨bs_nil _, fun a ha => by cases ha⟩, fun a ha => (by cases ha), fun _ => 0, 0, .inl ⟨rfl, rfl, rfl⟩⟩
theorem spoiled_ow {w : World} {B : Nat} {A : Option Addr} {c : Nat} {xs : List Int} (h : OW w B A c xs) (hn : xs.length ≤ 1000000000) :
    Calls Tryz.prog 29 #[.slice A xs.length c] w fun e w' => e = .returned (.bool true) ∧ Aw w w' A := by
 obtain ⟨f, g, hs⟩ := h.sr
 rcases hs with ⟨h1, h2, h3⟩ | ⟨h1, h2, h3⟩
 · refine (spoiled_any (g := w.heap.size) (f := f) (.inl ⟨h1, h2, h3⟩) hn).mono ?_
   rintro e w' ⟨he, hb⟩
   exact ⟨he, hb.os, hb.tape, hb.output, hb.size, fun k hk _ => hb.block k hk (by omega)⟩
 · refine (spoiled_any (g := g) (f := f) (.inr ⟨h1, h2, h3⟩) hn).mono ?_
   rintro e w' ⟨he, hb⟩
   exact ⟨he, hb.os, hb.tape, hb.output, hb.size, fun k hk hA => hb.block k hk (fun e => hA _ h1 e.symm)⟩
theorem ParseTo.any {sa : Nat → Addr} {w : World} {l : List UInt8} {e : Ending} {w' : World} {hd : Hd} {d : List Int} (hp : ParseTo sa w l e w') (hq : pfr l = (hd, d)) : ∃ A c ev, e = .returned (.tuple #[.agg (fcs hd.ver hd.ty hd.fl hd.st hd.ln (.slice A d.length c)), ev]) ∧ OW w' w.heap.size A c d ∧ Below w.heap.size w w' := by
 have hb := pfr_byt l
 rw [hq] at hb
 unfold ParseTo at hp
 unfold pfr at hq
 cases h : gparse l with
 | error c =>
   rw [h] at hp hq
   injection hq with q1 q2
   subst q1 q2
   exact ⟨none, 0, _, hp.1, OW.nil _ _, hp.2⟩
 | ok x =>
   rw [h] at hp hq
   obtain rfl : x = (hd, d) := hq
   obtain ⟨v, rfl, ho, hb2⟩ := hp
   obtain ⟨A, c, rfl, hq⟩ := OW.of_own ho hb
   exact ⟨A, c, _, rfl, hq, hb2⟩
end Go.Proofs.YtidmgckmphcegaaGreatDoor
