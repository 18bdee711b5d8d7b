import Derived.Lib.ParseIntB
import Derived.Test.YtidmgckmphcegaaGreatDoorME
import Derived.Lib.FieldsP
import Derived.Lib.DecodeN
import Derived.Test.YtidmgckmphcegaaGreatDoorMB
import Derived.Lib.Strings
/-
 Texts of byte lists and lines of frames, without a program: told, read, words, headers.
-/
namespace Go.Proofs.YtidmgckmphcegaaGreatDoor
open Go
set_option linter.unusedVariables false
set_option linter.unusedSimpArgs false
def hexC (n : Nat) : UInt8 := if n < 10 then UInt8.ofNat (48 + n) else UInt8.ofNat (87 + n)
def plainN (n : Nat) : Bool := decide (33 ≤ n) && decide (n ≤ 126) && decide (n ≠ 37)
def told1 (x : Int) : List UInt8 := if plainN x.toNat then [UInt8.ofNat x.toNat] else [37, hexC (x.toNat / 16), hexC (x.toNat % 16)]
def toldL (xs : List Int) : List UInt8 := xs.flatMap told1
def told (xs : List Int) : List UInt8 := if xs = [] then [37] else toldL xs
theorem toldL_snoc (xs : List Int) (x : Int) : toldL (xs ++ [x]) = toldL xs ++ told1 x := by simp [toldL]
theorem told1_len (x : Int) : (told1 x).length ≤ 3 ∧ 1 ≤ (told1 x).length := by unfold told1; split <;> simp
theorem toldL_len (xs : List Int) : (toldL xs).length ≤ 3 * xs.length ∧ xs.length ≤ (toldL xs).length := by
 induction xs with
 | nil => simp [toldL]
 | cons x xs ih =>
   have h1 := told1_len x
   have e : toldL (x :: xs) = told1 x ++ toldL xs := by simp [toldL]
   rw [e]; simp only [List.length_append, List.length_cons]; omega
theorem told_len (xs : List Int) : (told xs).length ≤ 3 * xs.length + 1 := by
 have h := toldL_len xs
 unfold told; split
 · simp
 · omega
def hexV (c : UInt8) : Option Nat := if 48 ≤ c.toNat ∧ c.toNat ≤ 57 then some (c.toNat - 48) else if 97 ≤ c.toNat ∧ c.toNat ≤ 102 then some (c.toNat - 87) else none
theorem hexV_lt {c : UInt8} {n : Nat} (h : hexV c = some n) : n < 16 := by
 unfold hexV at h
 split at h
 · injection h; omega
 · split at h
   · injection h; omega
   · cases h
theorem hexV_hexC {n : Nat} (h : n < 16) : hexV (hexC n) = some n := by
 have : ∀ k : Fin 16, hexV (hexC k) = some k.1 := by decide +kernel
 exact this ⟨n, h⟩
theorem hexC_hexV {c : UInt8} {n : Nat} (h : hexV c = some n) : hexC n = c := by
 have hc : c = UInt8.ofNat c.toNat := by simp
 unfold hexV at h
 split at h
 · rename_i hh
   obtain rfl := (Option.some.inj h).symm
   unfold hexC
   rw [if_pos (by omega), show 48 + (c.toNat - 48) = c.toNat by omega]
   exact hc.symm
 · split at h
   · rename_i hh
     obtain rfl := (Option.some.inj h).symm
     unfold hexC
     rw [if_neg (by omega), show 87 + (c.toNat - 87) = c.toNat by omega]
     exact hc.symm
   · cases h
def readL : List UInt8 → Option (List Int)
 | [] => some []
 | c :: r =>
   if plainN c.toNat then (readL r).map ((c.toNat : Int) :: ·)
   else match r with
    | h :: l :: r' =>
      if c = 37 then
       match hexV h, hexV l with
       | some a, some b => if plainN (16 * a + b) then none else (readL r').map (((16 * a + b : Nat) : Int) :: ·)
       | _, _ => none
      else none
    | _ => none
def read (l : List UInt8) : Option (List Int) := if l = [37] then some [] else if l = [] then none else readL l
theorem told1_byte {x : Int} (h0 : 0 ≤ x) (h1 : x ≤ 255) (r : List UInt8) : readL (told1 x ++ r) = (readL r).map (x :: ·) := by
 have ht : (UInt8.ofNat x.toNat).toNat = x.toNat := by simp; omega
 unfold told1
 split
 · rename_i hp
   rw [List.cons_append, List.nil_append, readL.eq_def]
   simp only [ht, hp, if_true]
   congr 2
   funext l; rw [show ((x.toNat : Nat) : Int) = x by omega]
 · rename_i hp
   have hp' : plainN x.toNat = false := by simpa using hp
   have e : 16 * (x.toNat / 16) + x.toNat % 16 = x.toNat := by omega
   simp only [List.cons_append, List.nil_append]
   rw [readL.eq_def]
   have h37 : plainN (37 : UInt8).toNat = false := by decide
   simp only [h37, Bool.false_eq_true, if_false, if_true, hexV_hexC (show x.toNat / 16 < 16 by omega), hexV_hexC (show x.toNat % 16 < 16 by omega), e, hp']
   congr 2
   funext l; rw [show ((x.toNat : Nat) : Int) = x by omega]
theorem readL_toldL {xs : List Int} (h : ∀ x ∈ xs, 0 ≤ x ∧ x ≤ 255) : readL (toldL xs) = some xs := by
 induction xs with
 | nil => simp [toldL, readL]
 | cons x xs ih =>
   have e : toldL (x :: xs) = told1 x ++ toldL xs := by simp [toldL]
   have hx := h x (by simp)
   rw [e, told1_byte hx.1 hx.2, ih fun y hy => h y (by simp [hy])]
   rfl
theorem toldL_nil {xs : List Int} (h : toldL xs = []) : xs = [] := by
 have := (toldL_len xs).2
 rw [h] at this
 exact List.eq_nil_of_length_eq_zero (by simpa using this)
theorem told1_pct (x : Int) : told1 x ≠ [37] := by
 unfold told1; split
 · rename_i hp
   intro e
   have e' : UInt8.ofNat x.toNat = 37 := by simpa using e
   have h2 : (UInt8.ofNat x.toNat).toNat = 37 := by rw [e']; rfl
   unfold plainN at hp
   simp at hp h2
   omega
 · simp
theorem toldL_pct (xs : List Int) : toldL xs ≠ [37] := by
 cases xs with
 | nil => simp [toldL]
 | cons x xs =>
   have e : toldL (x :: xs) = told1 x ++ toldL xs := by simp [toldL]
   rw [e]
   intro h
   have hl := congrArg List.length h
   have h1 := told1_len x
   simp at hl
   have : toldL xs = [] := List.eq_nil_of_length_eq_zero (by omega)
   rw [this, List.append_nil] at h
   exact told1_pct x h
theorem read_told {xs : List Int} (h : ∀ x ∈ xs, 0 ≤ x ∧ x ≤ 255) : read (told xs) = some xs := by
 unfold read told
 by_cases hx : xs = []
 · rw [if_pos hx, if_pos rfl, hx]
 · rw [if_neg hx, if_neg (toldL_pct xs), if_neg (fun e => hx (toldL_nil e)), readL_toldL h]
theorem readL_sound : ∀ {l : List UInt8} {xs : List Int}, readL l = some xs → toldL xs = l ∧ ∀ x ∈ xs, 0 ≤ x ∧ x ≤ 255 := by
 intro l
 induction hn : l.length using Nat.strongRecOn generalizing l with
 | ind n ih =>
   intro xs h
   cases l with
   | nil => simp [readL] at h; subst h; simp [toldL]
   | cons c r =>
     rw [readL.eq_def] at h
     simp only at h
     have hcl : c.toNat ≤ 255 := by have := c.toNat_lt; omega
     split at h
     · rename_i hp
       obtain ⟨ys, hy, rfl⟩ := Option.map_eq_some_iff.1 h
       obtain ⟨h1, h2⟩ := ih r.length (by simp at hn; omega) rfl hy
       refine ⟨?_, ?_⟩
       · have e : toldL ((c.toNat : Int) :: ys) = told1 c.toNat ++ toldL ys := by simp [toldL]
         rw [e, h1]
         unfold told1
         rw [if_pos (by simpa using hp)]
         simp
       · intro x hx
         rcases List.mem_cons.1 hx with rfl | hx
         · omega
         · exact h2 x hx
     · rename_i hp
       split at h
       · rename_i a b r'
         split at h
         · rename_i h37
           split at h
           · rename_i p q e1 e2
             have hp1 := hexV_lt e1
             have hq1 := hexV_lt e2
             split at h
             · cases h
             · rename_i hnp
               obtain ⟨ys, hy, rfl⟩ := Option.map_eq_some_iff.1 h
               obtain ⟨h1, h2⟩ := ih r'.length (by simp at hn; omega) rfl hy
               refine ⟨?_, ?_⟩
               · have e : toldL (((16 * p + q : Nat) : Int) :: ys) = told1 ((16 * p + q : Nat) : Int) ++ toldL ys := by simp [toldL]
                 rw [e, h1]
                 unfold told1
                 rw [if_neg (by rw [Int.toNat_natCast]; exact hnp)]
                 have e3 : ((16 * p + q : Nat) : Int).toNat / 16 = p := by omega
                 have e4 : ((16 * p + q : Nat) : Int).toNat % 16 = q := by omega
                 rw [e3, e4, hexC_hexV e1, hexC_hexV e2, h37]
                 rfl
               · intro x hx
                 rcases List.mem_cons.1 hx with rfl | hx
                 · omega
                 · exact h2 x hx
           · cases h
         · cases h
       · cases h
theorem read_sound {l : List UInt8} {xs : List Int} (h : read l = some xs) : told xs = l ∧ ∀ x ∈ xs, 0 ≤ x ∧ x ≤ 255 := by
 unfold read at h
 split at h
 · rename_i e
   obtain rfl := (Option.some.inj h).symm
   exact ⟨by rw [e]; rfl, by simp⟩
 · split at h
   · cases h
   · rename_i h1 h2
     obtain ⟨h3, h4⟩ := readL_sound h
     refine ⟨?_, h4⟩
     unfold told
     rw [if_neg, h3]
     intro e
     subst e
     exact h2 h3.symm
def spl (c : UInt8) : List UInt8 → List (List UInt8)
 | [] => [[]]
 | b :: l => if b = c then [] :: spl c l else match spl c l with
   | [] => [[b]]
   | x :: xs => (b :: x) :: xs
theorem spl_ne (c : UInt8) (l : List UInt8) : spl c l ≠ [] := by
 cases l with
 | nil => simp [spl]
 | cons b l =>
   unfold spl
   split
   · simp
   · split <;> simp
theorem spl_none (c : UInt8) {l : List UInt8} (h : ∀ x ∈ l, x ≠ c) : spl c l = [l] := by
 induction l with
 | nil => rfl
 | cons b l ih =>
   rw [spl, if_neg (h b (by simp)), ih fun x hx => h x (by simp [hx])]
theorem spl_app (c : UInt8) {a : List UInt8} (h : ∀ x ∈ a, x ≠ c) (r : List UInt8) : spl c (a ++ c :: r) = a :: spl c r := by
 induction a with
 | nil => simp [spl]
 | cons b a ih =>
   rw [List.cons_append, spl, if_neg (h b (by simp)), ih fun x hx => h x (by simp [hx])]
theorem spl_cons (c : UInt8) (l : List UInt8) : (∃ a r, l = a ++ c :: r ∧ (∀ x ∈ a, x ≠ c) ∧ spl c l = a :: spl c r) ∨ ((∀ x ∈ l, x ≠ c) ∧ spl c l = [l]) := by
 induction l with
 | nil => exact .inr ⟨by simp, rfl⟩
 | cons b l ih =>
   by_cases hb : b = c
   · subst hb
     exact .inl ⟨[], l, rfl, by simp, by simp [spl]⟩
   · rcases ih with ⟨a, r, h1, h2, h3⟩ | ⟨h1, h2⟩
     · refine .inl ⟨b :: a, r, by rw [h1]; rfl, ?_, ?_⟩
       · intro x hx
         rcases List.mem_cons.1 hx with rfl | hx
         · exact hb
         · exact h2 x hx
       · rw [spl, if_neg hb, h3]
     · refine .inr ⟨?_, ?_⟩
       · intro x hx
         rcases List.mem_cons.1 hx with rfl | hx
         · exact hb
         · exact h1 x hx
       · rw [spl, if_neg hb, h2]
end Go.Proofs.YtidmgckmphcegaaGreatDoor
/-
 The words of a line read as a header, without a program: what tap.Parse computes, and that it reads a frame's line.
-/
namespace Go.Proofs.YtidmgckmphcegaaGreatDoor
open Go
set_option linter.unusedVariables false
set_option linter.unusedSimpArgs false
abbrev Wds := List (List UInt8)
def wType : List UInt8 := [116, 121, 112, 101]
def wVer : List UInt8 := [118, 101, 114, 115, 105, 111, 110]
def wFlags : List UInt8 := [102, 108, 97, 103, 115]
def wStream : List UInt8 := [115, 116, 114, 101, 97, 109]
def wLength : List UInt8 := [108, 101, 110, 103, 116, 104]
def wKind : Nat → List UInt8
 | 0 => [100, 97, 116, 97]
 | 1 => [119, 105, 110, 100, 111, 119]
 | 2 => [112, 105, 110, 103]
 | _ => [97, 119, 97, 121]
def wFlag : Nat → List UInt8
 | 0 => [115, 121, 110]
 | 1 => [97, 99, 107]
 | 2 => [102, 105, 110]
 | _ => [114, 115, 116]
def isW (word : List UInt8) : Wds → Option Wds
 | [] => none
 | x :: r => if x = word then some r else none
def numW (B : Nat) (ws : Wds) (bad : Bool) : Nat × Wds × Bool :=
 match ws with
 | [] => (0, [], true)
 | x :: r => match Lib.parseUintB B x with
   | .ok n => (n, r, bad)
   | Lib.NumEnd.syntax => (0, r, true)
   | .range => (2 ^ B - 1, r, true)
def aftW (word : List UInt8) (B : Nat) (ws : Wds) (bad : Bool) : Nat × Wds × Bool :=
 match isW word ws with
 | none => (0, ws, true)
 | some r => numW B r bad
def optW (word : List UInt8) (B : Nat) (ws : Wds) (bad : Bool) : Nat × Wds × Bool :=
 match isW word ws with
 | none => (0, ws, bad)
 | some r => numW B r bad
structure Hd where
 ver : Nat
 ty : Nat
 fl : Nat
 st : Nat
 ln : Nat
 deriving DecidableEq
def kindI (x : List UInt8) : Nat := if x = wKind 0 then 0 else if x = wKind 1 then 1 else if x = wKind 2 then 2 else if x = wKind 3 then 3 else 0
def kindB (x : List UInt8) : Bool := x == wKind 0 || x == wKind 1 || x == wKind 2 || x == wKind 3
def typW (ws : Wds) : Nat × Wds × Bool :=
 match isW wType ws with
 | none => (kindI (ws.headD []), ws.tail, false)
 | some r => numW 8 r false
def flagsW : Nat → Wds → Nat × Wds
 | 0, ws => (0, ws)
 | k + 1, ws => match isW (wFlag k) (flagsW k ws).2 with
   | none => flagsW k ws
   | some r => ((flagsW k ws).1 + 2 ^ k, r)
def hdrW (ws : Wds) : Hd × Wds × Bool :=
 let a := typW ws
 let b := optW wVer 8 a.2.1 a.2.2
 let c := flagsW 4 b.2.1
 let d := optW wFlags 16 c.2 b.2.2
 let e := aftW wStream 32 d.2.1 d.2.2
 let f := aftW wLength 32 e.2.1 e.2.2
 (⟨b.1, a.1, c.1 ||| d.1, e.1, f.1⟩, f.2.1, f.2.2)
theorem isW_some {w : List UInt8} {r : Wds} : isW w (w :: r) = some r := by simp [isW]
theorem isW_none {w x : List UInt8} {r : Wds} (h : x ≠ w) : isW w (x :: r) = none := by simp [isW, h]
theorem valD_ge (a : Nat) : ∀ l : List UInt8, a ≤ l.foldl (fun a d => a * 10 + (d.toNat - 48)) a
 | [] => Nat.le_refl _
 | c :: r => by
   rw [List.foldl_cons]
   have := valD_ge (a * 10 + (c.toNat - 48)) r
   omega
theorem parseM_digits (M : Nat) (hM : M < 18446744073709551616) : ∀ (l : List UInt8) (acc : Nat), (∀ x ∈ l, 48 ≤ x.toNat ∧ x.toNat ≤ 57) → l.foldl (fun a d => a * 10 + (d.toNat - 48)) acc ≤ M → Lib.parseUintM M acc l = .ok (l.foldl (fun a d => a * 10 + (d.toNat - 48)) acc)
 | [], acc, _, _ => rfl
 | c :: r, acc, hd, hv => by
   have hc := hd c (by simp)
   rw [List.foldl_cons] at hv ⊢
   have hg := valD_ge (acc * 10 + (c.toNat - 48)) r
   rw [Lib.parseUintM, if_pos hc, if_neg (by omega), if_neg (by omega)]
   exact parseM_digits M hM r _ (fun x hx => hd x (by simp [hx])) hv
theorem parse_dec (B n : Nat) (hB : B ≤ 64) (h : n < 2 ^ B) : Lib.parseUintB B (Lib.decDigits n) = .ok n := by
 have h1 := parseM_digits (2 ^ B - 1) (by have := Nat.pow_le_pow_right (show 0 < 2 by omega) hB; omega) (Lib.decDigits n) 0 (dec_digits n) (by have := valD_dec n; unfold valD at this; omega)
 rw [Lib.parseUintB, if_neg (dec_ne_nil n), h1]
 have := valD_dec n
 unfold valD at this
 rw [this]
theorem numW_dec (B n : Nat) (hB : B ≤ 64) (h : n < 2 ^ B) (r : Wds) (bad : Bool) : numW B (Lib.decDigits n :: r) bad = (n, r, bad) := by
 simp only [numW, parse_dec B n hB h]
def lsW (xs : List ByteArray) : Wds := xs.map (·.data.toList)
theorem lsW_app (xs ys : List ByteArray) : lsW (xs ++ ys) = lsW xs ++ lsW ys := by simp [lsW]
theorem dec_ls (n : Nat) : (dec n).data.toList = Lib.decDigits n := by simp [dec]
theorem lsW_kind (ty : Nat) : lsW (kindW ty) = if ty < 4 then [wKind ty] else [wType, Lib.decDigits ty] := by
 unfold kindW
 split
 · rename_i h
   simp only [lsW, List.map_cons, List.map_nil, List.cons.injEq, and_true]
   rcases (by omega : ty = 0 ∨ ty = 1 ∨ ty = 2 ∨ ty = 3) with rfl | rfl | rfl | rfl <;> rfl
 · simp only [lsW, List.map_cons, List.map_nil, dec_ls]; rfl
theorem lsW_ver (v : Nat) : lsW (verW v) = if v = 0 then [] else [wVer, Lib.decDigits v] := by
 unfold verW
 split
 · rfl
 · simp only [lsW, List.map_cons, List.map_nil, dec_ls]; rfl
theorem lsW_rest (fl : Nat) : lsW (restW fl) = if fl / 16 = 0 then [] else [wFlags, Lib.decDigits (fl / 16 * 16)] := by
 unfold restW
 split
 · rfl
 · simp only [lsW, List.map_cons, List.map_nil, dec_ls]; rfl
theorem lsW_flagk (k : Nat) : (flW k).data.toList = wFlag k := by
 match k with
 | 0 => rfl
 | 1 => rfl
 | 2 => rfl
 | _ + 3 => rfl
theorem lsW_all (ver ty fl st ln : Nat) : lsW (allW ver ty fl st ln) = lsW (kindW ty) ++ (lsW (verW ver) ++ (lsW (flagW fl 4) ++ (lsW (restW fl) ++ [wStream, Lib.decDigits st, wLength, Lib.decDigits ln]))) := by
 unfold allW
 simp only [lsW_app, List.append_assoc]
 simp only [lsW, List.map_cons, List.map_nil, dec_ls]
 rfl
theorem kindI_wKind {i : Nat} (h : i < 4) : kindI (wKind i) = i := by
 have : ∀ a : Fin 4, kindI (wKind a) = a.1 := by decide
 exact this ⟨i, h⟩
theorem wKind_type (i : Nat) : wKind i ≠ wType := by unfold wKind wType; split <;> decide
theorem typW_kind {ty : Nat} (h : ty < 256) (r : Wds) : typW (lsW (kindW ty) ++ r) = (ty, r, false) := by
 rw [lsW_kind]
 split
 · rename_i h4
   simp only [List.cons_append, List.nil_append, typW, isW_none (wKind_type ty), List.headD_cons, List.tail_cons, kindI_wKind h4]
 · simp only [List.cons_append, List.nil_append, typW, isW_some]
   exact numW_dec 8 ty (by omega) (by omega) r false
theorem optW_hit {w : List UInt8} (B n : Nat) (hB : B ≤ 64) (h : n < 2 ^ B) (r : Wds) (bad : Bool) : optW w B (w :: Lib.decDigits n :: r) bad = (n, r, bad) := by
 simp only [optW, isW_some, numW_dec B n hB h]
theorem optW_miss {w x : List UInt8} (hne : x ≠ w) (B : Nat) (r : Wds) (bad : Bool) : optW w B (x :: r) bad = (0, x :: r, bad) := by
 simp only [optW, isW_none hne]
theorem aftW_hit {w : List UInt8} (B n : Nat) (hB : B ≤ 64) (h : n < 2 ^ B) (r : Wds) (bad : Bool) : aftW w B (w :: Lib.decDigits n :: r) bad = (n, r, bad) := by
 simp only [aftW, isW_some, numW_dec B n hB h]
theorem flagsW_flag (fl : Nat) (r : Wds) (hr : ∃ x t, r = x :: t ∧ ∀ k, k < 4 → x ≠ wFlag k) : flagsW 4 (lsW (flagW fl 4) ++ r) = (fl % 16, r) := by
 obtain ⟨x, t, rfl, hx⟩ := hr
 have h0 := hx 0 (by omega)
 have h1 := hx 1 (by omega)
 have h2 := hx 2 (by omega)
 have h3 := hx 3 (by omega)
 have e : lsW (flagW fl 4) = (if fl % 2 = 1 then [wFlag 0] else []) ++ ((if fl / 2 % 2 = 1 then [wFlag 1] else []) ++ ((if fl / 4 % 2 = 1 then [wFlag 2] else []) ++ (if fl / 8 % 2 = 1 then [wFlag 3] else []))) := by
  have hp : ∀ k, lsW (if fl / 2 ^ k % 2 = 1 then [flW k] else []) = if fl / 2 ^ k % 2 = 1 then [wFlag k] else [] := by
   intro k; split
   · simp only [lsW, List.map_cons, List.map_nil, lsW_flagk]
   · rfl
  simp only [flagW, lsW_app, hp, List.append_assoc]
  simp [lsW]
 have hn : ∀ i j : Fin 4, i ≠ j → wFlag i ≠ wFlag j := by decide
 have n01 := hn 0 1 (by decide); have n02 := hn 0 2 (by decide); have n03 := hn 0 3 (by decide)
 have n10 := hn 1 0 (by decide); have n12 := hn 1 2 (by decide); have n13 := hn 1 3 (by decide)
 have n20 := hn 2 0 (by decide); have n21 := hn 2 1 (by decide); have n23 := hn 2 3 (by decide)
 have n30 := hn 3 0 (by decide); have n31 := hn 3 1 (by decide); have n32 := hn 3 2 (by decide)
 rw [e]
 simp only [flagsW]
 rcases (by omega : fl % 2 = 1 ∨ fl % 2 = 0) with a | a <;> rcases (by omega : fl / 2 % 2 = 1 ∨ fl / 2 % 2 = 0) with b | b <;> rcases (by omega : fl / 4 % 2 = 1 ∨ fl / 4 % 2 = 0) with c | c <;> rcases (by omega : fl / 8 % 2 = 1 ∨ fl / 8 % 2 = 0) with d | d <;>
  (simp only [a, b, c, d, if_true, if_false, Nat.zero_ne_one, List.nil_append, List.cons_append]
   simp only [isW, if_true, if_false, reduceIte, h0, h1, h2, h3, show wFlag 1 ≠ wFlag 0 from n10, show wFlag 2 ≠ wFlag 0 from n20, show wFlag 3 ≠ wFlag 0 from n30, show wFlag 2 ≠ wFlag 1 from n21, show wFlag 3 ≠ wFlag 1 from n31, show wFlag 3 ≠ wFlag 2 from n32]
   congr 1
   omega)
theorem or_flags (fl : Nat) : fl % 16 ||| fl / 16 * 16 = fl := by
 have h := Nat.two_pow_add_eq_or_of_lt (i := 4) (b := fl % 16) (by omega) (fl / 16)
 rw [Nat.or_comm, show fl / 16 * 16 = 2 ^ 4 * (fl / 16) by omega, ← h]
 omega
theorem hdrW_all {ver ty fl st ln : Nat} (h1 : ver < 256) (h2 : ty < 256) (h3 : fl < 65536) (h4 : st < 4294967296) (h5 : ln < 4294967296) (r : Wds) : hdrW (lsW (allW ver ty fl st ln) ++ r) = (⟨ver, ty, fl, st, ln⟩, r, false) := by
 have hs : ∀ k, k < 4 → wStream ≠ wFlag k := by decide
 have hf : ∀ k, k < 4 → wFlags ≠ wFlag k := by decide
 have e : lsW (allW ver ty fl st ln) ++ r = lsW (kindW ty) ++ (lsW (verW ver) ++ (lsW (flagW fl 4) ++ (lsW (restW fl) ++ (wStream :: Lib.decDigits st :: wLength :: Lib.decDigits ln :: r)))) := by
  rw [lsW_all]; simp only [List.append_assoc, List.cons_append, List.nil_append]
 have hr : ∃ x t, lsW (restW fl) ++ (wStream :: Lib.decDigits st :: wLength :: Lib.decDigits ln :: r) = x :: t ∧ ∀ k, k < 4 → x ≠ wFlag k := by
  rw [lsW_rest]; split
  · exact ⟨_, _, rfl, hs⟩
  · exact ⟨_, _, rfl, hf⟩
 have hv : optW wVer 8 (lsW (verW ver) ++ (lsW (flagW fl 4) ++ (lsW (restW fl) ++ (wStream :: Lib.decDigits st :: wLength :: Lib.decDigits ln :: r)))) false = (ver, lsW (flagW fl 4) ++ (lsW (restW fl) ++ (wStream :: Lib.decDigits st :: wLength :: Lib.decDigits ln :: r)), false) := by
  rw [lsW_ver]; split
  · rename_i hv0
    subst hv0
    rw [List.nil_append]
    have hx : ∃ x t, lsW (flagW fl 4) ++ (lsW (restW fl) ++ (wStream :: Lib.decDigits st :: wLength :: Lib.decDigits ln :: r)) = x :: t ∧ x ≠ wVer := by
     cases hfl : flagW fl 4 with
     | nil =>
       obtain ⟨x, t, hx, _⟩ := hr
       rw [lsW_rest] at hx ⊢
       simp only [lsW, List.map_nil, List.nil_append]
       split
       · exact ⟨_, _, rfl, by decide⟩
       · exact ⟨_, _, rfl, by decide⟩
     | cons y ys =>
       obtain ⟨j, hj⟩ := flagW_mem fl 4 y (by rw [hfl]; simp)
       refine ⟨_, _, rfl, ?_⟩
       rw [hj]
       show (flW j).data.toList ≠ wVer
       rw [lsW_flagk]
       unfold wFlag wVer; split <;> decide
    obtain ⟨x, t, hx, hn⟩ := hx
    rw [hx, optW_miss hn]
  · simp only [List.cons_append, List.nil_append]
    rw [optW_hit 8 ver (by omega) (by omega)]
 have hw : optW wFlags 16 (lsW (restW fl) ++ (wStream :: Lib.decDigits st :: wLength :: Lib.decDigits ln :: r)) false = (fl / 16 * 16, wStream :: Lib.decDigits st :: wLength :: Lib.decDigits ln :: r, false) := by
  rw [lsW_rest]; split
  · rename_i h0
    rw [List.nil_append, optW_miss (by decide), h0]
  · simp only [List.cons_append, List.nil_append]
    rw [optW_hit 16 _ (by omega) (by omega)]
 unfold hdrW
 rw [e, typW_kind h2]
 simp only [hv, flagsW_flag fl _ hr, hw]
 rw [aftW_hit 32 st (by omega) (by omega)]
 simp only
 rw [aftW_hit 32 ln (by omega) (by omega)]
 simp only [or_flags]
end Go.Proofs.YtidmgckmphcegaaGreatDoor
/-
 A line and its frame, without a program: what tap.Parse and tap.Assemble answer.
-/
namespace Go.Proofs.YtidmgckmphcegaaGreatDoor
open Go
set_option linter.unusedVariables false
set_option linter.unusedSimpArgs false
structure Hd.Ok (h : Hd) : Prop where
 ver : h.ver < 256
 ty : h.ty < 256
 fl : h.fl < 65536
 st : h.st < 4294967296
 ln : h.ln < 4294967296
def textH (h : Hd) : List UInt8 := textB h.ver h.ty h.fl h.st h.ln
def lineB (h : Hd) (d : List Int) : List UInt8 := if h.ty = 0 then textH h ++ 32 :: told d else textH h
def gparse (line : List UInt8) : Except Nat (Hd × List Int) :=
 let ws := spl 32 line
 let a := hdrW ws
 if (ws.headD [] == wType || kindB (ws.headD [])) = false then .error 40
 else if a.2.2 = true then .error 41
 else if a.1.ty ≠ 0 then (if textH a.1 ≠ line then .error 41 else .ok (a.1, []))
 else if a.2.1.length ≠ 1 then .error 41
 else if textH a.1 ++ 32 :: a.2.1.headD [] ≠ line then .error 41
 else match read (a.2.1.headD []) with
  | none => .error 41
  | some d => if d.length ≠ a.1.ln then .error 15 else .ok (a.1, d)
theorem parseM_lt (M : Nat) : ∀ (l : List UInt8) (acc n : Nat), acc ≤ M → Lib.parseUintM M acc l = .ok n → n ≤ M
 | [], acc, n, ha, h => by rw [Lib.parseUintM] at h; injection h with h; omega
 | c :: r, acc, n, ha, h => by
   rw [Lib.parseUintM] at h
   split at h
   · split at h
     · cases h
     · split at h
       · cases h
       · exact parseM_lt M r _ n (by omega) h
   · cases h
theorem numW_lt (B : Nat) (ws : Wds) (bad : Bool) : (numW B ws bad).1 < 2 ^ B := by
 have hp := Nat.two_pow_pos B
 unfold numW
 split
 · exact hp
 · rename_i x r
   split
   · rename_i n hn
     unfold Lib.parseUintB at hn
     split at hn
     · cases hn
     · have := parseM_lt _ _ _ _ (by omega) hn
       show n < 2 ^ B
       omega
   · exact hp
   · show 2 ^ B - 1 < 2 ^ B; omega
theorem optW_lt (w : List UInt8) (B : Nat) (ws : Wds) (bad : Bool) : (optW w B ws bad).1 < 2 ^ B := by
 unfold optW; split
 · exact Nat.two_pow_pos B
 · exact numW_lt ..
theorem aftW_lt (w : List UInt8) (B : Nat) (ws : Wds) (bad : Bool) : (aftW w B ws bad).1 < 2 ^ B := by
 unfold aftW; split
 · exact Nat.two_pow_pos B
 · exact numW_lt ..
theorem kindI_lt (x : List UInt8) : kindI x < 4 := by unfold kindI; split <;> (try omega); split <;> (try omega); split <;> (try omega); split <;> omega
theorem typW_lt (ws : Wds) : (typW ws).1 < 256 := by
 unfold typW; split
 · have := kindI_lt (ws.headD []); show kindI _ < 256; omega
 · exact numW_lt 8 _ _
theorem flagsW_lt (ws : Wds) : ∀ k, (flagsW k ws).1 < 2 ^ k
 | 0 => by simp [flagsW]
 | k + 1 => by
   have := flagsW_lt ws k
   unfold flagsW; split
   · rw [Nat.pow_succ]; omega
   · show _ + 2 ^ k < _; rw [Nat.pow_succ]; omega
theorem hdrW_ok (ws : Wds) : (hdrW ws).1.Ok := by
 unfold hdrW
 refine ⟨optW_lt _ 8 _ _, typW_lt _, ?_, aftW_lt _ 32 _ _, aftW_lt _ 32 _ _⟩
 exact Nat.or_lt_two_pow (n := 16) (by have := flagsW_lt (optW wVer 8 (typW ws).2.1 (typW ws).2.2).2.1 4; omega) (optW_lt _ 16 _ _)
theorem join_one (x : List UInt8) : Lib.join [x] [32] = x := by simp [Lib.join]
theorem join_two (x y : List UInt8) (r : List (List UInt8)) : Lib.join (x :: y :: r) [32] = x ++ 32 :: Lib.join (y :: r) [32] := by
 simp [Lib.join, List.intercalate, List.intersperse]
theorem spl_join : ∀ (xs : Wds), xs ≠ [] → (∀ w ∈ xs, ∀ x ∈ w, x ≠ 32) → spl 32 (Lib.join xs [32]) = xs
 | [], h, _ => absurd rfl h
 | [x], _, h => by rw [join_one]; exact spl_none 32 (h x (by simp))
 | x :: y :: r, _, h => by
   rw [join_two, spl_app 32 (h x (by simp)), spl_join (y :: r) (by simp) fun w hw => h w (by simp [hw])]
theorem join_snoc : ∀ (xs : Wds), xs ≠ [] → ∀ t, Lib.join (xs ++ [t]) [32] = Lib.join xs [32] ++ 32 :: t
 | [], h, _ => absurd rfl h
 | [x], _, t => by rw [List.singleton_append, join_two, join_one, join_one]
 | x :: y :: r, _, t => by
   have := join_snoc (y :: r) (by simp) t
   rw [List.cons_append, List.cons_append, join_two, join_two, ← List.cons_append, this, List.append_assoc, List.cons_append]
theorem lsW_wd (ver ty fl st ln : Nat) : ∀ w ∈ lsW (allW ver ty fl st ln), ∀ x ∈ w, x ≠ 32 := by
 intro w hw
 obtain ⟨b, hb, rfl⟩ := List.mem_map.1 hw
 exact (allW_wd ver ty fl st ln b hb).2
theorem lsW_ne (ver ty fl st ln : Nat) : lsW (allW ver ty fl st ln) ≠ [] := by
 unfold lsW; simp only [ne_eq, List.map_eq_nil_iff]; exact allW_ne _ _ _ _ _
theorem hexC_ne {n : Nat} (h : n < 16) : hexC n ≠ 32 := by
 have : ∀ k : Fin 16, hexC k ≠ 32 := by decide +kernel
 exact this ⟨n, h⟩
theorem told1_no (x : Int) (h1 : x ≤ 255) : ∀ y ∈ told1 x, y ≠ 32 := by
 intro y hy
 unfold told1 at hy
 split at hy
 · rename_i hp
   obtain rfl := List.mem_singleton.1 hy
   intro e
   have h2 : (UInt8.ofNat x.toNat).toNat = 32 := by rw [e]; rfl
   unfold plainN at hp
   simp at hp h2
   omega
 · simp only [List.mem_cons, List.not_mem_nil, or_false] at hy
   rcases hy with rfl | rfl | rfl
   · decide
   · exact hexC_ne (by omega)
   · exact hexC_ne (by omega)
theorem told_no {d : List Int} (h : ∀ x ∈ d, 0 ≤ x ∧ x ≤ 255) : ∀ y ∈ told d, y ≠ 32 := by
 intro y hy
 unfold told at hy
 split at hy
 · simp at hy; subst hy; decide
 · obtain ⟨x, hx, hy⟩ := List.mem_flatMap.1 hy
   exact told1_no x (h x hx).2 y hy
theorem spl_line0 {h : Hd} : spl 32 (textH h) = lsW (allW h.ver h.ty h.fl h.st h.ln) := spl_join _ (lsW_ne _ _ _ _ _) (lsW_wd _ _ _ _ _)
theorem spl_line1 {h : Hd} {t : List UInt8} (ht : ∀ y ∈ t, y ≠ 32) : spl 32 (textH h ++ 32 :: t) = lsW (allW h.ver h.ty h.fl h.st h.ln) ++ [t] := by
 have e : textH h ++ 32 :: t = Lib.join (lsW (allW h.ver h.ty h.fl h.st h.ln) ++ [t]) [32] := (join_snoc _ (lsW_ne _ _ _ _ _) t).symm
 rw [e]
 refine spl_join _ (by simp) fun w hw => ?_
 rcases List.mem_append.1 hw with hw | hw
 · exact lsW_wd _ _ _ _ _ w hw
 · obtain rfl := List.mem_singleton.1 hw
   exact ht
theorem headD_all (h : Hd) (r : Wds) : ((lsW (allW h.ver h.ty h.fl h.st h.ln) ++ r).headD [] == wType || kindB ((lsW (allW h.ver h.ty h.fl h.st h.ln) ++ r).headD [])) = true := by
 have hk : ∀ i : Fin 4, kindB (wKind i) = true := by decide
 rw [lsW_all, lsW_kind]
 split
 · rename_i h4
   simp only [List.cons_append, List.headD_cons]
   rw [hk ⟨h.ty, h4⟩]; simp
 · simp only [List.cons_append, List.headD_cons, beq_self_eq_true, Bool.true_or]
theorem hdrW_h {h : Hd} (ho : h.Ok) (r : Wds) : hdrW (lsW (allW h.ver h.ty h.fl h.st h.ln) ++ r) = (h, r, false) := hdrW_all ho.ver ho.ty ho.fl ho.st ho.ln r
theorem gparse_line {h : Hd} (ho : h.Ok) {d : List Int} (hd : ∀ x ∈ d, 0 ≤ x ∧ x ≤ 255) : gparse (lineB h d) = if h.ty = 0 then (if d.length ≠ h.ln then .error 15 else .ok (h, d)) else .ok (h, []) := by
 unfold gparse lineB
 by_cases ht : h.ty = 0
 · rw [if_pos ht]
   simp only [spl_line1 (told_no hd), hdrW_h ho, headD_all h [told d]]
   simp only [List.headD_cons, read_told hd]
   rw [if_neg (by decide), if_neg (by decide), if_neg (fun hc => hc ht), if_neg (by simp), if_neg (fun hc => hc rfl), if_pos ht]
 · rw [if_neg ht]
   simp only [spl_line0]
   have e0 := headD_all h []
   have e1 := hdrW_h ho []
   rw [List.append_nil] at e0 e1
   simp only [e0, e1]
   rw [if_neg (by decide), if_neg (by decide), if_pos ht, if_neg (fun hc => hc rfl), if_neg ht]
theorem gparse_ok {line : List UInt8} {h : Hd} {d : List Int} (e : gparse line = .ok (h, d)) : h.Ok ∧ (∀ x ∈ d, 0 ≤ x ∧ x ≤ 255) ∧ lineB h d = line ∧ (h.ty = 0 → d.length = h.ln) ∧ (h.ty ≠ 0 → d = []) := by
 unfold gparse at e
 have ho := hdrW_ok (spl 32 line)
 simp only at e
 split at e
 · cases e
 · split at e
   · cases e
   · split at e
     · rename_i ht
       split at e
       · cases e
       · rename_i hl
         injection e with e
         injection e with e1 e2
         subst e1 e2
         refine ⟨ho, by simp, ?_, fun h0 => absurd h0 ht, fun _ => rfl⟩
         unfold lineB
         rw [if_neg ht]
         exact Classical.not_not.1 hl
     · rename_i ht
       split at e
       · cases e
       · split at e
         · cases e
         · rename_i hl
           split at e
           · cases e
           · rename_i d' hr
             split at e
             · cases e
             · rename_i hn
               injection e with e
               injection e with e1 e2
               subst e1 e2
               have hs := read_sound hr
               have ht' : (hdrW (spl 32 line)).1.ty = 0 := Classical.not_not.1 ht
               refine ⟨ho, hs.2, ?_, fun _ => Classical.not_not.1 hn, fun h0 => absurd ht' h0⟩
               unfold lineB
               rw [if_pos ht', hs.1]
               exact Classical.not_not.1 hl
theorem gparse_15 {line : List UInt8} (e : gparse line = .error 15) : ∃ h d, h.Ok ∧ (∀ x ∈ d, 0 ≤ x ∧ x ≤ 255) ∧ lineB h d = line ∧ h.ty = 0 ∧ d.length ≠ h.ln := by
 unfold gparse at e
 have ho := hdrW_ok (spl 32 line)
 simp only at e
 split at e
 · cases e
 · split at e
   · cases e
   · split at e
     · split at e <;> cases e
     · rename_i ht
       split at e
       · cases e
       · split at e
         · cases e
         · rename_i hl
           split at e
           · cases e
           · rename_i d' hr
             split at e
             · rename_i hn
               have hs := read_sound hr
               have ht' : (hdrW (spl 32 line)).1.ty = 0 := Classical.not_not.1 ht
               refine ⟨_, d', ho, hs.2, ?_, ht', hn⟩
               unfold lineB
               rw [if_pos ht', hs.1]
               exact Classical.not_not.1 hl
             · cases e
theorem gparse_err {line : List UInt8} {c : Nat} (e : gparse line = .error c) : c = 40 ∨ c = 41 ∨ c = 15 := by
 unfold gparse at e
 simp only at e
 repeat' split at e
 all_goals first
  | (injection e with e; subst e; simp)
  | cases e
theorem gparse_40 (line : List UInt8) : gparse line = .error 40 ↔ ((spl 32 line).headD [] == wType || kindB ((spl 32 line).headD [])) = false := by
 constructor
 · intro e
   unfold gparse at e
   simp only at e
   split at e
   · assumption
   · repeat' split at e
     all_goals first
      | cases e
 · intro h
   unfold gparse
   simp only [h, if_true]
end Go.Proofs.YtidmgckmphcegaaGreatDoor
/-
 The first word of a line, without a program: what strings.FieldsFunc gives first where the function is chapter 25's blank.
-/
namespace Go.Proofs.YtidmgckmphcegaaGreatDoor
open Go Go.Lib
set_option linter.unusedVariables false
set_option linter.unusedSimpArgs false
def blkB (c : UInt8) : Bool := c == 32 || c == 9 || c == 13
def blkR (x : Nat) : Bool := x == 32 || x == 9 || x == 13
def firstW (l : List UInt8) : Option (List UInt8) :=
 if l.dropWhile blkB = [] then none else some ((l.dropWhile blkB).takeWhile fun c => !blkB c)
def nb (l : List UInt8) (pos : Nat) : Nat := pos + ((l.drop pos).takeWhile fun c => !blkB c).length
theorem blk_byte (c : UInt8) : blkB c = blkR c.toNat := by
 have h : ∀ k : UInt8, c = k ↔ c.toNat = k.toNat := fun k => ⟨fun e => by rw [e], fun e => UInt8.toNat.inj e⟩
 unfold blkB blkR
 rw [Bool.eq_iff_iff]
 simp [h]
theorem drop_at (s : ByteArray) {pos : Nat} (h : pos < s.size) : s.data.toList.drop pos = s.get! pos :: s.data.toList.drop (pos + 1) := by
 have hl : pos < s.data.toList.length := by simpa using h
 rw [List.drop_eq_getElem_cons hl]
 congr 1
 simp [ByteArray.get!, getElem!_pos, h]
theorem nb_blank (s : ByteArray) {pos : Nat} (h : pos < s.size) (hb : blkB (s.get! pos) = true) : nb s.data.toList pos = pos := by
 unfold nb; rw [drop_at s h]; simp [hb]
theorem nb_end (s : ByteArray) {pos : Nat} (h : ¬ pos < s.size) : nb s.data.toList pos = pos := by
 unfold nb; rw [List.drop_of_length_le (by simp; omega)]; rfl
theorem nb_step (s : ByteArray) {pos : Nat} (h : pos < s.size) (hb : blkB (s.get! pos) = false) : nb s.data.toList pos = nb s.data.toList (pos + 1) := by
 unfold nb; rw [drop_at s h]; simp [hb]; omega
theorem get_past (s : ByteArray) {i : Nat} (h : ¬ i < s.size) : (s.get! i).toNat = 0 := by
 have : s.data[i]? = none := Array.getElem?_eq_none (by simpa using h)
 simp [ByteArray.get!, getElem!_def, this]; rfl
theorem rune_step (s : ByteArray) (pos : Nat) (h : pos < s.size) : 1 ≤ (Utf8.decode s pos).2 ∧ pos + (Utf8.decode s pos).2 ≤ s.size ∧ blkR (Utf8.decode s pos).1 = blkB (s.get! pos) ∧ (blkB (s.get! pos) = true → (Utf8.decode s pos).2 = 1) ∧ ∀ j, j < (Utf8.decode s pos).2 → blkB (s.get! pos) = false → blkB (s.get! (pos + j)) = false := by
 have hi : ∀ k, 128 ≤ (s.get! (pos + k)).toNat → blkB (s.get! (pos + k)) = false ∧ pos + k < s.size := by
  intro k hk
  refine ⟨?_, Classical.byContradiction fun hn => ?_⟩
  · rw [blk_byte]; unfold blkR; simp; omega
  · have := get_past s hn; omega
 rw [decode_at]
 have h0 := hi 0
 have h1 := hi 1
 have h2 := hi 2
 have h3 := hi 3
 simp only [Nat.add_zero] at h0
 have hbb : blkB (s.get! pos) = blkR (s.get! pos).toNat := blk_byte _
 generalize e0 : (s.get! pos).toNat = b0 at *
 generalize e1 : (s.get! (pos + 1)).toNat = b1 at *
 generalize e2 : (s.get! (pos + 2)).toNat = b2 at *
 generalize e3 : (s.get! (pos + 3)).toNat = b3 at *
 have nbk : ∀ c, 128 ≤ c → blkR c = false := by intro c hc; unfold blkR; simp; omega
 by_cases hlo : b0 < 128
 · have e : decodeN (s.size - pos) b0 b1 b2 b3 = (b0, 1) := by simp [decodeN, hlo]
   rw [e]
   refine ⟨Nat.le_refl _, by show pos + 1 ≤ _; omega, hbb.symm, fun _ => rfl, ?_⟩
   intro j hj hf
   obtain rfl : j = 0 := by have : j < 1 := hj; omega
   exact hf
 · have hf0 := (h0 (by omega)).1
   have key : ∀ (x : Nat × Nat), (x = (65533, 1) ∨ (128 ≤ x.1 ∧ (x.2 = 2 ∧ 128 ≤ b1 ∨ x.2 = 3 ∧ 128 ≤ b1 ∧ 128 ≤ b2 ∨ x.2 = 4 ∧ 128 ≤ b1 ∧ 128 ≤ b2 ∧ 128 ≤ b3))) →
       1 ≤ x.2 ∧ pos + x.2 ≤ s.size ∧ blkR x.1 = blkB (s.get! pos) ∧ (blkB (s.get! pos) = true → x.2 = 1) ∧ ∀ j, j < x.2 → blkB (s.get! pos) = false → blkB (s.get! (pos + j)) = false := by
    rintro ⟨x1, x2⟩ hx
    simp only at hx ⊢
    rcases hx with hx | ⟨hx1, hx⟩
    · obtain ⟨rfl, rfl⟩ : x1 = 65533 ∧ x2 = 1 := by simpa using hx
      refine ⟨by omega, by omega, by rw [hf0]; decide, fun _ => rfl, ?_⟩
      intro j hj _
      obtain rfl : j = 0 := by omega
      exact hf0
    · refine ⟨by omega, ?_, by rw [hf0]; exact nbk _ hx1, fun hc => absurd hc (by rw [hf0]; decide), ?_⟩
      · rcases hx with ⟨a, b⟩ | ⟨a, b, c⟩ | ⟨a, b, c, d⟩
        · have := (h1 b).2; omega
        · have := (h2 c).2; omega
        · have := (h3 d).2; omega
      · intro j hj _
        have : j = 0 ∨ j = 1 ∨ j = 2 ∨ j = 3 := by omega
        rcases this with rfl | rfl | rfl | rfl
        · exact hf0
        · exact (h1 (by omega)).1
        · exact (h2 (by omega)).1
        · exact (h3 (by omega)).1
   refine key _ ?_
   unfold decodeN
   simp only [hlo, if_false]
   split
   · rename_i hc
     split
     · exact .inr ⟨by omega, .inl ⟨rfl, by omega⟩⟩
     · exact .inl rfl
   · split
     · rename_i hc
       split
       · rename_i hv
         exact .inr ⟨by show 128 ≤ _; omega, .inr (.inl ⟨rfl, by omega, by omega⟩)⟩
       · exact .inl rfl
     · split
       · rename_i hc
         split
         · rename_i hv
           exact .inr ⟨by show 128 ≤ _; omega, .inr (.inr ⟨rfl, by omega, by omega, by omega⟩)⟩
         · exact .inl rfl
       · exact .inl rfl
theorem nb_rune (s : ByteArray) {pos : Nat} : ∀ w, pos + w ≤ s.size → (∀ j, j < w → blkB (s.get! (pos + j)) = false) → nb s.data.toList pos = nb s.data.toList (pos + w)
 | 0, _, _ => rfl
 | w + 1, h, hj => by
   rw [nb_rune s w (by omega) fun j hj' => hj j (by omega), nb_step s (by omega) (hj w (by omega)), Nat.add_assoc]
theorem span_acc (s : ByteArray) (x : Nat × Nat) : ∀ (f pos : Nat) (st : Option Nat) (acc : List (Nat × Nat)), ∃ r, closeSpans s (spansFromP blkR s f pos st (x :: acc)) = x :: r
 | 0, pos, st, acc => by
   unfold spansFromP closeSpans
   cases st
   · exact ⟨_, rfl⟩
   · exact ⟨_, rfl⟩
 | f + 1, pos, st, acc => by
   unfold spansFromP
   split
   · split
     · cases st with
       | none => exact span_acc s x f _ _ _
       | some a => exact span_acc s x f _ _ _
     · cases st with
       | none => exact span_acc s x f _ _ _
       | some a => exact span_acc s x f _ _ _
   · cases st with
     | none => exact ⟨_, rfl⟩
     | some a => exact ⟨_, rfl⟩
theorem span_in (s : ByteArray) (a : Nat) : ∀ (f pos : Nat), s.size - pos ≤ f → pos ≤ s.size → ∃ r, closeSpans s (spansFromP blkR s f pos (some a) []) = (a, nb s.data.toList pos) :: r
 | 0, pos, hf, hp => by
   rw [nb_end s (by omega)]
   obtain rfl : pos = s.size := by omega
   exact ⟨[], rfl⟩
 | f + 1, pos, hf, hp => by
   by_cases hlt : pos < s.size
   · obtain ⟨h1, h2, h3, h4, h5⟩ := rune_step s pos hlt
     unfold spansFromP
     rw [if_pos hlt, h3]
     by_cases hb : blkB (s.get! pos) = true
     · rw [if_pos hb, nb_blank s hlt hb]
       exact span_acc s (a, pos) f _ _ []
     · have hb' : blkB (s.get! pos) = false := by simpa using hb
       rw [if_neg hb, nb_rune s _ h2 fun j hj => h5 j hj hb']
       exact span_in s a f _ (by omega) h2
   · rw [nb_end s hlt, spansFromP_end _ _ _ _ _ _ hlt]
     obtain rfl : pos = s.size := by omega
     exact ⟨[], rfl⟩
theorem span_out (s : ByteArray) : ∀ (f pos : Nat), s.size - pos ≤ f → pos ≤ s.size →
    (((s.data.toList.drop pos).dropWhile blkB = [] ∧ closeSpans s (spansFromP blkR s f pos none []) = []) ∨
     ∃ a r, a ≤ s.size ∧ (s.data.toList.drop pos).dropWhile blkB = s.data.toList.drop a ∧ s.data.toList.drop a ≠ [] ∧ closeSpans s (spansFromP blkR s f pos none []) = (a, nb s.data.toList a) :: r)
 | 0, pos, hf, hp => by
   refine .inl ⟨?_, rfl⟩
   rw [List.drop_of_length_le (by simp; omega)]; rfl
 | f + 1, pos, hf, hp => by
   by_cases hlt : pos < s.size
   · obtain ⟨h1, h2, h3, h4, h5⟩ := rune_step s pos hlt
     unfold spansFromP
     rw [if_pos hlt, h3]
     by_cases hb : blkB (s.get! pos) = true
     · rw [if_pos hb, h4 hb]
       have e : (s.data.toList.drop pos).dropWhile blkB = (s.data.toList.drop (pos + 1)).dropWhile blkB := by rw [drop_at s hlt]; simp [hb]
       rw [e]
       exact span_out s f (pos + 1) (by omega) (by omega)
     · have hb' : blkB (s.get! pos) = false := by simpa using hb
       rw [if_neg hb]
       obtain ⟨r, hr⟩ := span_in s pos f _ (by omega : s.size - (pos + (Utf8.decode s pos).2) ≤ f) h2
       refine .inr ⟨pos, r, by omega, ?_, ?_, ?_⟩
       · rw [drop_at s hlt]; simp [hb']
       · rw [drop_at s hlt]; simp
       · rw [nb_rune s _ h2 fun j hj => h5 j hj hb']
         exact hr
   · rw [spansFromP_end _ _ _ _ _ _ hlt]
     refine .inl ⟨?_, rfl⟩
     rw [List.drop_of_length_le (by simp; omega)]; rfl
theorem fields_first (s : ByteArray) : (goFieldsP blkR s = [] ∧ firstW s.data.toList = none) ∨ ∃ x r, goFieldsP blkR s = x :: r ∧ firstW s.data.toList = some x.data.toList ∧ x.size ≤ s.size := by
 rcases span_out s s.size 0 (by omega) (by omega) with ⟨h1, h2⟩ | ⟨a, r, ha, h1, h2, h3⟩
 · rw [List.drop_zero] at h1
   refine .inl ⟨?_, by unfold firstW; rw [if_pos h1]⟩
   unfold goFieldsP spansOfP
   rw [h2]; rfl
 · rw [List.drop_zero] at h1
   refine .inr ⟨s.extract a (nb s.data.toList a), r.map fun x => s.extract x.1 x.2, ?_, ?_, ?_⟩
   · unfold goFieldsP spansOfP
     rw [h3]; rfl
   · unfold firstW
     rw [h1, if_neg h2]
     congr 1
     rw [extract_data]
     unfold nb
     rw [show a + ((s.data.toList.drop a).takeWhile fun c => !blkB c).length - a = ((s.data.toList.drop a).takeWhile fun c => !blkB c).length by omega]
     have : ∀ l : List UInt8, l.takeWhile (fun c => !blkB c) = l.take (l.takeWhile fun c => !blkB c).length := by
      intro l
      induction l with
      | nil => rfl
      | cons c l ih => by_cases hc : blkB c <;> simp [hc, List.takeWhile_cons]; exact ih
     exact this _
   · rw [ByteArray.size_extract]; omega
theorem dropWhile_head : ∀ (l : List UInt8) (c : UInt8) (t : List UInt8), l.dropWhile blkB = c :: t → blkB c = false
 | [], c, t, h => by simp at h
 | b :: l, c, t, h => by
   by_cases hb : blkB b = true
   · simp only [List.dropWhile_cons, hb, if_true] at h
     exact dropWhile_head l c t h
   · simp only [List.dropWhile_cons, hb, Bool.false_eq_true, if_false] at h
     injection h with h _
     subst h
     simpa using hb
theorem firstW_ne {l w : List UInt8} (h : firstW l = some w) : w ≠ [] := by
 unfold firstW at h
 split at h
 · cases h
 · rename_i hd
   injection h with h
   cases e : l.dropWhile blkB with
   | nil => exact absurd e hd
   | cons c t =>
     have hc := dropWhile_head l c t e
     rw [e] at h
     rw [← h]
     simp [List.takeWhile_cons, hc]
end Go.Proofs.YtidmgckmphcegaaGreatDoor
/-
 A text of lines and its bytes, without a program: what tap.Assemble answers; the example of chapter 26.
-/
namespace Go.Proofs.YtidmgckmphcegaaGreatDoor
open Go
set_option linter.unusedVariables false
set_option linter.unusedSimpArgs false
def encH (h : Hd) (d : List Int) : List Int := enc h.ver h.ty h.fl h.st h.ln ++ d
def wBytes : List UInt8 := [98, 121, 116, 101, 115]
def wBytes_ : List UInt8 := [98, 121, 116, 101, 115, 32]
def gline (line : List UInt8) : Except Nat (List Int) :=
 match firstW line with
 | none => .ok []
 | some w =>
   if w.headD 0 = 35 then .ok []
   else if w = wBytes then
    (if Lib.hasPrefix line wBytes_ = true then (match read (line.drop 6) with | none => .error 41 | some d => .ok d) else .error 41)
   else match gparse line with
    | .error e => .error e
    | .ok (h, d) => .ok (encH h d)
def gasmL : List (List UInt8) → List Int → Except Nat (List Int)
 | [], out => .ok out
 | l :: r, out => match gline l with
   | .error e => .error e
   | .ok b => gasmL r (out ++ b)
def gasm (text : List UInt8) : Except Nat (List Int) := gasmL (spl 10 text) []
def exText : List UInt8 := [35, 32, 97, 32, 114, 101, 109, 97, 114, 107, 10, 10, 112, 105, 110, 103, 32, 97, 99, 107, 32, 115, 116, 114, 101, 97, 109, 32, 48, 32, 108, 101, 110, 103, 116, 104, 32, 57, 10, 98, 121, 116, 101, 115, 32, 37, 48, 48, 37, 48, 49, 10]
def exLine : List UInt8 := [112, 105, 110, 103, 32, 97, 99, 107, 32, 115, 116, 114, 101, 97, 109, 32, 48, 32, 108, 101, 110, 103, 116, 104, 32, 57]
def exBytes : List Int := [0, 2, 0, 2, 0, 0, 0, 0, 0, 0, 0, 9, 0, 1]
theorem ex_text : textH ⟨0, 2, 2, 0, 9⟩ = exLine := by
 unfold textH textB allW kindW verW restW
 simp [flagW, flW, tyW, dec, Lib.decDigits_one, Lib.join, exLine]
theorem ex_lineB : lineB ⟨0, 2, 2, 0, 9⟩ [] = exLine := by unfold lineB; rw [if_neg (by decide), ex_text]
theorem ex_parse : gparse exLine = .ok (⟨0, 2, 2, 0, 9⟩, []) := by
 have h := gparse_line (h := ⟨0, 2, 2, 0, 9⟩) ⟨by decide, by decide, by decide, by decide, by decide⟩ (d := []) (by simp)
 rw [ex_lineB] at h
 rw [h]; rfl
def pingLine : List UInt8 := [112, 105, 110, 103, 32, 115, 121, 110, 32, 115, 116, 114, 101, 97, 109, 32, 48, 32, 108, 101, 110, 103, 116, 104, 32, 55]
theorem ping_text : textH ⟨0, 2, 1, 0, 7⟩ = pingLine := by
 unfold textH textB allW kindW verW restW
 simp [flagW, flW, tyW, dec, Lib.decDigits_one, Lib.join, pingLine]
theorem ping_parse : gparse pingLine = .ok (⟨0, 2, 1, 0, 7⟩, []) := by
 have h := gparse_line (h := ⟨0, 2, 1, 0, 7⟩) ⟨by decide, by decide, by decide, by decide, by decide⟩ (d := []) (by simp)
 unfold lineB at h
 rw [if_neg (by decide), ping_text] at h
 rw [h]; rfl
def dataLine : List UInt8 := [100, 97, 116, 97, 32, 115, 121, 110, 32, 102, 105, 110, 32, 115, 116, 114, 101, 97, 109, 32, 51, 32, 108, 101, 110, 103, 116, 104, 32, 50, 32, 97, 37, 50, 48]
theorem data_line : lineB ⟨0, 0, 5, 3, 2⟩ [97, 32] = dataLine := by
 have h : textH ⟨0, 0, 5, 3, 2⟩ = dataLine.take 30 := by
  unfold textH textB allW kindW verW restW
  simp [flagW, flW, tyW, dec, Lib.decDigits_one, Lib.join, dataLine]
 unfold lineB
 rw [if_pos rfl, h]
 decide
theorem ex_spl : spl 10 exText = [exText.take 10, [], exLine, [98, 121, 116, 101, 115, 32, 37, 48, 48, 37, 48, 49], []] := by decide
theorem ex_asm : gasm exText = .ok exBytes := by
 unfold gasm
 rw [ex_spl]
 have h1 : gline (exText.take 10) = .ok [] := by
  have hf : firstW (exText.take 10) = some [35] := by decide
  unfold gline
  rw [hf]; rfl
 have h2 : gline [] = .ok [] := rfl
 have h3 : gline exLine = .ok [0, 2, 0, 2, 0, 0, 0, 0, 0, 0, 0, 9] := by
  have hf : firstW exLine = some [112, 105, 110, 103] := by decide
  unfold gline
  rw [hf]
  simp only
  rw [if_neg (by decide), if_neg (by decide), ex_parse]
  rfl
 have h4 : gline [98, 121, 116, 101, 115, 32, 37, 48, 48, 37, 48, 49] = .ok [0, 1] := by
  have hr : read ([98, 121, 116, 101, 115, 32, 37, 48, 48, 37, 48, 49].drop 6) = some [0, 1] := by
   have := read_told (xs := [0, 1]) (by decide)
   rw [← this]; decide
  have hf : firstW [98, 121, 116, 101, 115, 32, 37, 48, 48, 37, 48, 49] = some wBytes := by decide
  unfold gline
  rw [hf]
  simp only [if_true]
  rw [if_neg (by decide), if_pos (by decide), hr]
 simp only [gasmL, h1, h2, h3, h4]
 rfl
end Go.Proofs.YtidmgckmphcegaaGreatDoor
