/-
 What the reference's Parse (culvertref26) computes, without a program, and that it is what tap.Parse computes.
-/
import Derived.Test.YtidmgckmphcegaaGreatDoorTRNum
import Derived.Test.YtidmgckmphcegaaGreatDoorMF
namespace Go.Proofs.YtidmgckmphcegaaGreatDoor
open Go Go.RowKit
set_option linter.unusedVariables false
set_option linter.unusedSimpArgs false
def rnext (lo hi : Int) (ws : Wds) (bad : Bool) : Int × Wds × Bool :=
 match ws with
 | [] => (0, [], true)
 | x :: r => ((rNumber x).1, r, bad || !((rNumber x).2 && decide (lo ≤ (rNumber x).1) && decide ((rNumber x).1 ≤ hi)))
def ropt (word : List UInt8) (lo hi : Int) (ws : Wds) (bad : Bool) : Int × Wds × Bool :=
 match isW word ws with
 | none => (0, ws, bad)
 | some r => rnext lo hi r bad
def rmust (word : List UInt8) (lo hi : Int) (ws : Wds) (bad : Bool) : Int × Wds × Bool :=
 match isW word ws with
 | none => rnext lo hi ws true
 | some r => rnext lo hi r bad
def rkindW (ws : Wds) : Option (Nat × Wds × Bool) :=
 match isW (wKind 0) ws with
 | some r => some (0, r, false)
 | none => match isW (wKind 1) ws with
   | some r => some (1, r, false)
   | none => match isW (wKind 2) ws with
     | some r => some (2, r, false)
     | none => match isW (wKind 3) ws with
       | some r => some (3, r, false)
       | none => match isW wType ws with
         | none => none
         | some r => some ((IntKind.u8.wrap (rnext 4 255 r false).1).toNat, (rnext 4 255 r false).2.1, (rnext 4 255 r false).2.2)
def rhdrW (ty : Nat) (ws : Wds) (bad : Bool) : Hd × Wds × Bool :=
 let b := ropt wVer 1 255 ws bad
 let c := flagsW 4 b.2.1
 let d := ropt wFlags 16 65535 c.2 b.2.2
 let db := d.2.2 || ((isW wFlags c.2).isSome && decide (d.1.tmod 16 ≠ 0))
 let e := rmust wStream 0 4294967295 d.2.1 db
 let f := rmust wLength 0 4294967295 e.2.1 e.2.2
 (⟨(IntKind.u8.wrap b.1).toNat, ty, (IntKind.u16.wrap (c.1 + IntKind.u16.wrap (d.1.tdiv 16 * 16))).toNat, (IntKind.u32.wrap e.1).toNat, (IntKind.u32.wrap f.1).toNat⟩, f.2.1, f.2.2)
def rparse (line : List UInt8) : Except Nat (Hd × List Int) :=
 match rkindW (spl 32 line) with
 | none => .error 40
 | some (ty, ws, bad) =>
   let a := rhdrW ty ws bad
   if a.2.2 = true then .error 41
   else if a.1.ty ≠ 0 then (if a.2.1.length ≠ 0 then .error 41 else .ok (a.1, []))
   else if a.2.1.length ≠ 1 then .error 41
   else match read (a.2.1.headD []) with
    | none => .error 41
    | some d => if d.length ≠ a.1.ln then .error 15 else .ok (a.1, d)
theorem isW_inv {w : List UInt8} {ws r : Wds} (h : isW w ws = some r) : ws = w :: r := by
 cases ws with
 | nil => simp [isW] at h
 | cons x t =>
   simp only [isW] at h
   split at h
   · rename_i hx
     rw [hx, Option.some.inj h]
   · cases h
theorem rnext_ok {lo hi : Int} {ws : Wds} {bad : Bool} (h : (rnext lo hi ws bad).2.2 = false) (hlo : 0 ≤ lo) : bad = false ∧ lo ≤ (rnext lo hi ws bad).1 ∧ (rnext lo hi ws bad).1 ≤ hi ∧ ws = Lib.decDigits (rnext lo hi ws bad).1.toNat :: (rnext lo hi ws bad).2.1 := by
 cases ws with
 | nil => simp [rnext] at h
 | cons x r =>
   simp only [rnext, Bool.or_eq_false_iff, Bool.not_eq_false', Bool.and_eq_true, decide_eq_true_eq] at h ⊢
   obtain ⟨h1, ⟨h2, h3⟩, h4⟩ := h
   refine ⟨h1, h3, h4, ?_⟩
   rw [← rNumber_sound (w := x) (n := (rNumber x).1) (by rw [← h2]) (by omega)]
theorem rnext_dec {lo hi : Int} {n : Nat} (h0 : lo ≤ n) (h1 : (n : Int) ≤ hi) (hh : hi ≤ 9223372036854775807) (r : Wds) (bad : Bool) : rnext lo hi (Lib.decDigits n :: r) bad = ((n : Int), r, bad) := by
 simp only [rnext, rNumber_dec (n := n) (by omega), decide_eq_true h0, decide_eq_true h1, Bool.and_self, Bool.not_true, Bool.or_false]
theorem ropt_bad {w : List UInt8} {lo hi : Int} {ws : Wds} {bad : Bool} (h : (ropt w lo hi ws bad).2.2 = false) (hlo : 0 ≤ lo) : bad = false ∧
    ((isW w ws = none ∧ (ropt w lo hi ws bad).1 = 0 ∧ (ropt w lo hi ws bad).2.1 = ws) ∨
     (lo ≤ (ropt w lo hi ws bad).1 ∧ (ropt w lo hi ws bad).1 ≤ hi ∧ (isW w ws).isSome = true ∧ ws = w :: Lib.decDigits (ropt w lo hi ws bad).1.toNat :: (ropt w lo hi ws bad).2.1)) := by
 cases hw : isW w ws with
 | none =>
   have e : ropt w lo hi ws bad = (0, ws, bad) := by unfold ropt; rw [hw]
   rw [e] at h ⊢
   exact ⟨h, .inl ⟨rfl, rfl, rfl⟩⟩
 | some r =>
   have e : ropt w lo hi ws bad = rnext lo hi r bad := by unfold ropt; rw [hw]
   rw [e] at h ⊢
   obtain ⟨h1, h2, h3, h4⟩ := rnext_ok h hlo
   refine ⟨h1, .inr ⟨h2, h3, rfl, ?_⟩⟩
   rw [← h4]; exact isW_inv hw
theorem rmust_ok {w : List UInt8} {lo hi : Int} {ws : Wds} {bad : Bool} (h : (rmust w lo hi ws bad).2.2 = false) (hlo : 0 ≤ lo) : bad = false ∧ lo ≤ (rmust w lo hi ws bad).1 ∧ (rmust w lo hi ws bad).1 ≤ hi ∧ ws = w :: Lib.decDigits (rmust w lo hi ws bad).1.toNat :: (rmust w lo hi ws bad).2.1 := by
 cases hw : isW w ws with
 | none =>
   have e : rmust w lo hi ws bad = rnext lo hi ws true := by unfold rmust; rw [hw]
   rw [e] at h ⊢
   have := (rnext_ok h hlo).1
   cases this
 | some r =>
   have e : rmust w lo hi ws bad = rnext lo hi r bad := by unfold rmust; rw [hw]
   rw [e] at h ⊢
   obtain ⟨h1, h2, h3, h4⟩ := rnext_ok h hlo
   refine ⟨h1, h2, h3, ?_⟩
   rw [← h4]; exact isW_inv hw
theorem flagsW_inv (ws : Wds) : ∀ k, ∃ fl, fl < 2 ^ k ∧ (flagsW k ws).1 = fl ∧ ws = lsW (flagW fl k) ++ (flagsW k ws).2
 | 0 => ⟨0, by simp, rfl, by simp [flagW, lsW, flagsW]⟩
 | k + 1 => by
   obtain ⟨fl, h1, h2, h3⟩ := flagsW_inv ws k
   have hk : ∀ j f, j ≤ k → flagW (f + 2 ^ k) j = flagW f j := by
    intro j
    induction j with
    | zero => intro f _; rfl
    | succ j ih =>
      intro f hj
      have e : (f + 2 ^ k) / 2 ^ j % 2 = f / 2 ^ j % 2 := by
       have hp : 2 ^ k = 2 ^ j * (2 * 2 ^ (k - j - 1)) := by
        rw [← Nat.pow_succ', ← Nat.pow_add]; congr 1; omega
       rw [hp, Nat.add_mul_div_left _ _ (Nat.two_pow_pos j), Nat.add_mul_mod_self_left]
      rw [flagW, flagW, ih f (by omega), e]
   unfold flagsW
   split
   · refine ⟨fl, by rw [Nat.pow_succ]; omega, h2, ?_⟩
     rw [flagW, Nat.div_eq_of_lt h1]
     simp only [Nat.zero_mod, Nat.zero_ne_one, if_false, List.append_nil]
     exact h3
   · rename_i r hw
     refine ⟨fl + 2 ^ k, by rw [Nat.pow_succ]; omega, by show (flagsW k ws).1 + 2 ^ k = _; rw [h2], ?_⟩
     have hd : (fl + 2 ^ k) / 2 ^ k % 2 = 1 := by
      rw [Nat.add_div_right _ (Nat.two_pow_pos k), Nat.div_eq_of_lt h1]
     rw [flagW, hk k fl (Nat.le_refl _), if_pos hd, lsW_app]
     have e : lsW [flW k] = [wFlag k] := by simp only [lsW, List.map_cons, List.map_nil, lsW_flagk]
     rw [e, List.append_assoc, List.singleton_append]
     show ws = lsW (flagW fl k) ++ (wFlag k :: r)
     rw [← isW_inv hw]
     exact h3
theorem wu8 (n : Int) : IntKind.u8.wrap n = n % 256 := by simp [IntKind.wrap, IntKind.bits, IntKind.signed]
theorem wu16 (n : Int) : IntKind.u16.wrap n = n % 65536 := by simp [IntKind.wrap, IntKind.bits, IntKind.signed]
theorem wu32 (n : Int) : IntKind.u32.wrap n = n % 4294967296 := by simp [IntKind.wrap, IntKind.bits, IntKind.signed]
theorem w8 {x : Int} (h0 : 0 ≤ x) (h1 : x ≤ 255) : (IntKind.u8.wrap x).toNat = x.toNat := by rw [wu8]; omega
theorem w16 {x : Int} (h0 : 0 ≤ x) (h1 : x ≤ 65535) : IntKind.u16.wrap x = x := by rw [wu16]; omega
theorem w32 {x : Int} (h0 : 0 ≤ x) (h1 : x ≤ 4294967295) : (IntKind.u32.wrap x).toNat = x.toNat := by rw [wu32]; omega
theorem rkindW_inv {ws left : Wds} {ty : Nat} {bad : Bool} (h : rkindW ws = some (ty, left, bad)) (hb : bad = false) : ty < 256 ∧ ws = lsW (kindW ty) ++ left := by
 have h4 : ∀ i, i < 4 → lsW (kindW i) = [wKind i] := by intro i hi; rw [lsW_kind, if_pos hi]
 unfold rkindW at h
 split at h
 · rename_i r hw
   obtain ⟨rfl, rfl, -⟩ : (0 = ty) ∧ (r = left) ∧ (false = bad) := by simpa using h
   exact ⟨by omega, by rw [h4 0 (by omega)]; exact isW_inv hw⟩
 · split at h
   · rename_i r hw
     obtain ⟨rfl, rfl, -⟩ : (1 = ty) ∧ (r = left) ∧ (false = bad) := by simpa using h
     exact ⟨by omega, by rw [h4 1 (by omega)]; exact isW_inv hw⟩
   · split at h
     · rename_i r hw
       obtain ⟨rfl, rfl, -⟩ : (2 = ty) ∧ (r = left) ∧ (false = bad) := by simpa using h
       exact ⟨by omega, by rw [h4 2 (by omega)]; exact isW_inv hw⟩
     · split at h
       · rename_i r hw
         obtain ⟨rfl, rfl, -⟩ : (3 = ty) ∧ (r = left) ∧ (false = bad) := by simpa using h
         exact ⟨by omega, by rw [h4 3 (by omega)]; exact isW_inv hw⟩
       · split at h
         · cases h
         · rename_i r hw
           injection h with h
           injection h with h1 h
           injection h with h2 h3
           rw [hb] at h3
           obtain ⟨_, g1, g2, g3⟩ := rnext_ok h3 (by omega)
           rw [w8 (by omega) (by omega)] at h1
           rw [h1, h2] at g3
           refine ⟨by omega, ?_⟩
           rw [lsW_kind, if_neg (by omega)]
           rw [isW_inv hw, g3]
           rfl
theorem rhdrW_inv {ty : Nat} {ws : Wds} {bad : Bool} (ht : ty < 256) (h : (rhdrW ty ws bad).2.2 = false) : bad = false ∧ (rhdrW ty ws bad).1.Ok ∧ (rhdrW ty ws bad).1.ty = ty ∧
    ws = lsW (verW (rhdrW ty ws bad).1.ver) ++ (lsW (flagW (rhdrW ty ws bad).1.fl 4) ++ (lsW (restW (rhdrW ty ws bad).1.fl) ++ (wStream :: Lib.decDigits (rhdrW ty ws bad).1.st :: wLength :: Lib.decDigits (rhdrW ty ws bad).1.ln :: (rhdrW ty ws bad).2.1))) := by
 unfold rhdrW at h ⊢
 simp only at h ⊢
 generalize hb : ropt wVer 1 255 ws bad = b at h ⊢
 generalize hc : flagsW 4 b.2.1 = c at h ⊢
 generalize hd : ropt wFlags 16 65535 c.2 b.2.2 = d at h ⊢
 generalize he : rmust wStream 0 4294967295 d.2.1 (d.2.2 || ((isW wFlags c.2).isSome && decide (d.1.tmod 16 ≠ 0))) = e at h ⊢
 generalize hf : rmust wLength 0 4294967295 e.2.1 e.2.2 = f at h ⊢
 have F := rmust_ok (w := wLength) (lo := 0) (hi := 4294967295) (ws := e.2.1) (bad := e.2.2) (by rw [hf]; exact h) (by omega)
 rw [hf] at F
 obtain ⟨F0, F1, F2, F3⟩ := F
 have E := rmust_ok (w := wStream) (lo := 0) (hi := 4294967295) (ws := d.2.1) (bad := (d.2.2 || ((isW wFlags c.2).isSome && decide (d.1.tmod 16 ≠ 0)))) (by rw [he]; exact F0) (by omega)
 rw [he] at E
 obtain ⟨E0, E1, E2, E3⟩ := E
 have E00 : d.2.2 = false := (Bool.or_eq_false_iff.1 E0).1
 have E01 := (Bool.or_eq_false_iff.1 E0).2
 have D := ropt_bad (w := wFlags) (lo := 16) (hi := 65535) (ws := c.2) (bad := b.2.2) (by rw [hd]; exact E00) (by omega)
 rw [hd] at D
 obtain ⟨D0, D1⟩ := D
 have B := ropt_bad (w := wVer) (lo := 1) (hi := 255) (ws := ws) (bad := bad) (by rw [hb]; exact D0) (by omega)
 rw [hb] at B
 obtain ⟨B0, B1⟩ := B
 obtain ⟨fl, hfl, C1, C2⟩ := flagsW_inv b.2.1 4
 rw [hc] at C1 C2
 have hfl16 : fl < 16 := hfl
 have hver : 0 ≤ b.1 ∧ b.1 ≤ 255 ∧ ws = lsW (verW b.1.toNat) ++ b.2.1 := by
  rcases B1 with ⟨_, g1, g2⟩ | ⟨g1, g2, _, g3⟩
  · refine ⟨by omega, by omega, ?_⟩
    rw [g1, lsW_ver, if_pos (by rfl), List.nil_append, g2]
  · refine ⟨by omega, g2, ?_⟩
    rw [lsW_ver, if_neg (by omega)]
    exact g3
 have hrest : 0 ≤ d.1 ∧ d.1 ≤ 65535 ∧ d.1 % 16 = 0 ∧ (d.1.toNat / 16 = 0 → c.2 = d.2.1) ∧ (d.1.toNat / 16 ≠ 0 → c.2 = wFlags :: Lib.decDigits d.1.toNat :: d.2.1) := by
  rcases D1 with ⟨_, g1, g2⟩ | ⟨g1, g2, g4, g3⟩
  · exact ⟨by omega, by omega, by omega, fun _ => g2.symm, fun hx => absurd (by rw [g1]; rfl) hx⟩
  · rw [g4] at E01
    have hm : d.1.tmod 16 = 0 := by simpa using E01
    have hm' : d.1 % 16 = 0 := by rw [← Int.tmod_eq_emod_of_nonneg (by omega)]; exact hm
    exact ⟨by omega, g2, hm', fun hx => absurd hx (by omega), fun _ => g3⟩
 obtain ⟨v0, v1, v2⟩ := hver
 obtain ⟨r0, r1, r2, r3, r4⟩ := hrest
 have hq : d.1.tdiv 16 * 16 = d.1 := by rw [Int.tdiv_eq_ediv_of_nonneg r0]; omega
 have hflv : IntKind.u16.wrap ((c.1 : Int) + IntKind.u16.wrap (d.1.tdiv 16 * 16)) = (fl : Int) + d.1 := by
  rw [hq, w16 r0 r1, C1, w16 (by omega) (by omega)]
 have hfln : ((fl : Int) + d.1).toNat = fl + d.1.toNat := by omega
 have hmod : (fl + d.1.toNat) % 16 = fl := by omega
 have hdiv : (fl + d.1.toNat) / 16 = d.1.toNat / 16 := by omega
 have hmul : d.1.toNat / 16 * 16 = d.1.toNat := by omega
 rw [w8 v0 v1, hflv, hfln, w32 E1 E2, w32 F1 F2]
 refine ⟨B0, ⟨by show b.1.toNat < 256; omega, ht, by show fl + d.1.toNat < 65536; omega, by show e.1.toNat < 4294967296; omega, by show f.1.toNat < 4294967296; omega⟩, trivial, ?_⟩
 show ws = lsW (verW b.1.toNat) ++ (lsW (flagW (fl + d.1.toNat) 4) ++ (lsW (restW (fl + d.1.toNat)) ++ (wStream :: Lib.decDigits e.1.toNat :: wLength :: Lib.decDigits f.1.toNat :: f.2.1)))
 rw [← F3, ← E3, flagW_mod, hmod, lsW_rest, hdiv, hmul]
 have hx : (if d.1.toNat / 16 = 0 then [] else [wFlags, Lib.decDigits d.1.toNat]) ++ d.2.1 = c.2 := by
  split
  · rename_i hz
    rw [r3 hz]; rfl
  · rename_i hz
    rw [r4 hz]; rfl
 rw [hx, ← C2]
 exact v2
theorem join_spl : ∀ (l : List UInt8), Lib.join (spl 32 l) [32] = l := by
 intro l
 induction hn : l.length using Nat.strongRecOn generalizing l with
 | ind n ih =>
   rcases spl_cons 32 l with ⟨a, r, h1, h2, h3⟩ | ⟨h1, h2⟩
   · rw [h3]
     have := ih r.length (by rw [← hn, h1]; simp; omega) r rfl
     cases hs : spl 32 r with
     | nil => exact absurd hs (spl_ne 32 r)
     | cons x xs => rw [join_two, ← hs, this, h1]
   · rw [h2, join_one]
theorem rallW {h : Hd} {ws left : Wds} (hk : ws = lsW (kindW h.ty) ++ (lsW (verW h.ver) ++ (lsW (flagW h.fl 4) ++ (lsW (restW h.fl) ++ (wStream :: Lib.decDigits h.st :: wLength :: Lib.decDigits h.ln :: left))))) : ws = lsW (allW h.ver h.ty h.fl h.st h.ln) ++ left := by
 rw [hk, lsW_all]; simp only [List.append_assoc, List.cons_append, List.nil_append]
theorem rparse_raw {line : List UInt8} {ty : Nat} {ws : Wds} {bad : Bool} (h1 : rkindW (spl 32 line) = some (ty, ws, bad)) (h2 : (rhdrW ty ws bad).2.2 = false) :
    (rhdrW ty ws bad).1.Ok ∧ spl 32 line = lsW (allW (rhdrW ty ws bad).1.ver (rhdrW ty ws bad).1.ty (rhdrW ty ws bad).1.fl (rhdrW ty ws bad).1.st (rhdrW ty ws bad).1.ln) ++ (rhdrW ty ws bad).2.1 := by
 have hb : bad = false := by
  by_cases ht : ty < 256
  · exact (rhdrW_inv ht h2).1
  · exfalso
    have : ∀ x : Int, (IntKind.u8.wrap x).toNat < 256 := by intro x; rw [wu8]; omega
    unfold rkindW at h1
    repeat' split at h1
    all_goals first
     | (injection h1 with h1; injection h1 with h1 _; exact ht (by rw [← h1]; first | omega | exact this _))
     | cases h1
 obtain ⟨ht, hk⟩ := rkindW_inv h1 hb
 obtain ⟨_, g1, g2, g3⟩ := rhdrW_inv ht h2
 refine ⟨g1, rallW ?_⟩
 rw [g2, ← g3]
 exact hk
theorem raw_line {h : Hd} {line : List UInt8} {left : Wds} (e : spl 32 line = lsW (allW h.ver h.ty h.fl h.st h.ln) ++ left) : (left = [] → line = textH h) ∧ (∀ t, left = [t] → line = textH h ++ 32 :: t) := by
 refine ⟨fun hl => ?_, fun t hl => ?_⟩
 · rw [hl, List.append_nil] at e
   rw [← join_spl line, e]; rfl
 · rw [hl] at e
   rw [← join_spl line, e, join_snoc _ (lsW_ne _ _ _ _ _)]; rfl
theorem rparse_ok {line : List UInt8} {h : Hd} {d : List Int} (e : rparse line = .ok (h, d)) : h.Ok ∧ (∀ x ∈ d, 0 ≤ x ∧ x ≤ 255) ∧ lineB h d = line ∧ (h.ty = 0 → d.length = h.ln) ∧ (h.ty ≠ 0 → d = []) := by
 unfold rparse at e
 split at e
 · cases e
 · rename_i ty ws bad hk
   simp only at e
   split at e
   · cases e
   · rename_i hb
     have hb' : (rhdrW ty ws bad).2.2 = false := by simpa using hb
     obtain ⟨ho, hs⟩ := rparse_raw hk hb'
     obtain ⟨r0, r1⟩ := raw_line hs
     split at e
     · rename_i ht
       split at e
       · cases e
       · rename_i hl
         injection e with e
         injection e with e1 e2
         subst e1 e2
         refine ⟨ho, by simp, ?_, fun h0 => absurd h0 ht, fun _ => rfl⟩
         unfold lineB
         rw [if_neg ht]
         exact (r0 (List.eq_nil_of_length_eq_zero (Classical.not_not.1 hl))).symm
     · rename_i ht
       split at e
       · cases e
       · rename_i hl
         split at e
         · cases e
         · rename_i d' hr
           split at e
           · cases e
           · rename_i hn
             injection e with e
             injection e with e1 e2
             subst e1 e2
             have hs' := read_sound hr
             have ht' := Classical.not_not.1 ht
             obtain ⟨t, htl⟩ := List.length_eq_one_iff.1 (Classical.not_not.1 hl)
             refine ⟨ho, hs'.2, ?_, fun _ => Classical.not_not.1 hn, fun h0 => absurd ht' h0⟩
             unfold lineB
             rw [if_pos ht', hs'.1, htl]
             exact (r1 t htl).symm
theorem rparse_15 {line : List UInt8} (e : rparse line = .error 15) : ∃ h d, h.Ok ∧ (∀ x ∈ d, 0 ≤ x ∧ x ≤ 255) ∧ lineB h d = line ∧ h.ty = 0 ∧ d.length ≠ h.ln := by
 unfold rparse at e
 split at e
 · cases e
 · rename_i ty ws bad hk
   simp only at e
   split at e
   · cases e
   · rename_i hb
     have hb' : (rhdrW ty ws bad).2.2 = false := by simpa using hb
     obtain ⟨ho, hs⟩ := rparse_raw hk hb'
     obtain ⟨r0, r1⟩ := raw_line hs
     split at e
     · split at e <;> cases e
     · rename_i ht
       split at e
       · cases e
       · rename_i hl
         split at e
         · cases e
         · rename_i d' hr
           split at e
           · rename_i hn
             have hs' := read_sound hr
             have ht' := Classical.not_not.1 ht
             obtain ⟨t, htl⟩ := List.length_eq_one_iff.1 (Classical.not_not.1 hl)
             refine ⟨_, d', ho, hs'.2, ?_, ht', hn⟩
             unfold lineB
             rw [if_pos ht', hs'.1, htl]
             exact (r1 t htl).symm
           · cases e
theorem rkind_all {ty : Nat} (h : ty < 256) (r : Wds) : rkindW (lsW (kindW ty) ++ r) = some (ty, r, false) := by
 have n (i j : Fin 4) (hij : i ≠ j) : wKind i ≠ wKind j := by revert hij; revert i j; decide
 have nt := wKind_type
 rw [lsW_kind]
 split
 · rename_i h4
   rw [List.singleton_append]
   rcases (by omega : ty = 0 ∨ ty = 1 ∨ ty = 2 ∨ ty = 3) with rfl | rfl | rfl | rfl
   · simp only [rkindW, isW_some]
   · simp only [rkindW, isW_some, isW_none (n 1 0 (by decide))]
     rfl
   · have a := isW_none (r := r) (n 2 0 (by decide)); have b := isW_none (r := r) (n 2 1 (by decide))
     simp only [Fin.isValue, Fin.val_zero, Fin.val_one, Fin.val_two] at a b
     simp only [rkindW, isW_some, a, b]
   · have a := isW_none (r := r) (n 3 0 (by decide)); have b := isW_none (r := r) (n 3 1 (by decide)); have c := isW_none (r := r) (n 3 2 (by decide))
     have e3 : ((3 : Fin 4) : Nat) = 3 := rfl
     simp only [Fin.isValue, Fin.val_zero, Fin.val_one, Fin.val_two, e3] at a b c
     simp only [rkindW, isW_some, a, b, c]
 · rename_i h4
   have hn : ∀ i, isW (wKind i) (wType :: Lib.decDigits ty :: r) = none := fun i => isW_none (nt i).symm
   simp only [List.cons_append, List.nil_append, rkindW, hn, isW_some, rnext_dec (lo := 4) (hi := 255) (n := ty) (by omega) (by omega) (by omega)]
   rw [w8 (by omega) (by omega)]
   rfl
theorem ropt_hit {w : List UInt8} {lo hi : Int} {n : Nat} (h0 : lo ≤ n) (h1 : (n : Int) ≤ hi) (hh : hi ≤ 9223372036854775807) (r : Wds) (bad : Bool) : ropt w lo hi (w :: Lib.decDigits n :: r) bad = ((n : Int), r, bad) := by
 simp only [ropt, isW_some, rnext_dec h0 h1 hh]
theorem ropt_miss {w x : List UInt8} (hne : x ≠ w) (lo hi : Int) (r : Wds) (bad : Bool) : ropt w lo hi (x :: r) bad = (0, x :: r, bad) := by
 simp only [ropt, isW_none hne]
theorem rmust_hit {w : List UInt8} {lo hi : Int} {n : Nat} (h0 : lo ≤ n) (h1 : (n : Int) ≤ hi) (hh : hi ≤ 9223372036854775807) (r : Wds) (bad : Bool) : rmust w lo hi (w :: Lib.decDigits n :: r) bad = ((n : Int), r, bad) := by
 simp only [rmust, isW_some, rnext_dec h0 h1 hh]
theorem rhdr_all {h : Hd} (ho : h.Ok) (r : Wds) : rhdrW h.ty (lsW (verW h.ver) ++ (lsW (flagW h.fl 4) ++ (lsW (restW h.fl) ++ (wStream :: Lib.decDigits h.st :: wLength :: Lib.decDigits h.ln :: r)))) false = (h, r, false) := by
 obtain ⟨ver, ty, fl, st, ln⟩ := h
 obtain ⟨o1, o2, o3, o4, o5⟩ := ho
 simp only at o1 o2 o3 o4 o5 ⊢
 have hs : ∀ k, k < 4 → wStream ≠ wFlag k := by decide
 have hf : ∀ k, k < 4 → wFlags ≠ wFlag k := by decide
 have hr : ∃ x t, lsW (restW fl) ++ (wStream :: Lib.decDigits st :: wLength :: Lib.decDigits ln :: r) = x :: t ∧ ∀ k, k < 4 → x ≠ wFlag k := by
  rw [lsW_rest]; split
  · exact ⟨_, _, rfl, hs⟩
  · exact ⟨_, _, rfl, hf⟩
 have hv : ropt wVer 1 255 (lsW (verW ver) ++ (lsW (flagW fl 4) ++ (lsW (restW fl) ++ (wStream :: Lib.decDigits st :: wLength :: Lib.decDigits ln :: r)))) false = ((ver : Int), lsW (flagW fl 4) ++ (lsW (restW fl) ++ (wStream :: Lib.decDigits st :: wLength :: Lib.decDigits ln :: r)), false) := by
  rw [lsW_ver]; split
  · rename_i hv0
    subst hv0
    rw [List.nil_append]
    have hx : ∃ x t, lsW (flagW fl 4) ++ (lsW (restW fl) ++ (wStream :: Lib.decDigits st :: wLength :: Lib.decDigits ln :: r)) = x :: t ∧ x ≠ wVer := by
     cases hfl : flagW fl 4 with
     | nil =>
       rw [lsW_rest]
       simp only [lsW, List.map_nil, List.nil_append]
       split
       · exact ⟨_, _, rfl, by decide⟩
       · exact ⟨_, _, rfl, by decide⟩
     | cons y ys =>
       obtain ⟨j, hj⟩ := flagW_mem fl 4 y (by rw [hfl]; simp)
       refine ⟨_, _, rfl, ?_⟩
       rw [hj]
       show (flW j).data.toList ≠ wVer
       rw [lsW_flagk]
       unfold wFlag wVer; split <;> decide
    obtain ⟨x, t, hx, hn⟩ := hx
    rw [hx, ropt_miss hn]
    rfl
  · simp only [List.cons_append, List.nil_append]
    rw [ropt_hit (by omega) (by omega) (by omega)]
 have hw : ropt wFlags 16 65535 (lsW (restW fl) ++ (wStream :: Lib.decDigits st :: wLength :: Lib.decDigits ln :: r)) false = (((fl / 16 * 16 : Nat) : Int), wStream :: Lib.decDigits st :: wLength :: Lib.decDigits ln :: r, false) := by
  rw [lsW_rest]; split
  · rename_i h0
    rw [List.nil_append, ropt_miss (by decide), h0]; rfl
  · simp only [List.cons_append, List.nil_append]
    rw [ropt_hit (by omega) (by omega) (by omega)]
 have hm : decide (((fl / 16 * 16 : Nat) : Int).tmod 16 ≠ 0) = false := by
  rw [Int.tmod_eq_emod_of_nonneg (by omega)]
  simp
 have hq : ((fl / 16 * 16 : Nat) : Int).tdiv 16 * 16 = ((fl / 16 * 16 : Nat) : Int) := by rw [Int.tdiv_eq_ediv_of_nonneg (by omega)]; omega
 unfold rhdrW
 simp only [hv, flagsW_flag fl _ hr, hw, hm, Bool.and_false, Bool.or_self]
 rw [rmust_hit (n := st) (by omega) (by omega) (by omega)]
 simp only
 rw [rmust_hit (n := ln) (by omega) (by omega) (by omega)]
 simp only
 rw [w8 (by omega) (by omega), hq, w16 (x := ((fl / 16 * 16 : Nat) : Int)) (by omega) (by omega), w16 (by omega) (by omega), w32 (by omega) (by omega), w32 (by omega) (by omega)]
 simp only [Int.toNat_natCast, Prod.mk.injEq, Hd.mk.injEq, and_true, true_and]
 omega
theorem rparse_line {h : Hd} (ho : h.Ok) {d : List Int} (hd : ∀ x ∈ d, 0 ≤ x ∧ x ≤ 255) : rparse (lineB h d) = if h.ty = 0 then (if d.length ≠ h.ln then .error 15 else .ok (h, d)) else .ok (h, []) := by
 have key : ∀ left, rkindW (lsW (allW h.ver h.ty h.fl h.st h.ln) ++ left) = some (h.ty, lsW (verW h.ver) ++ (lsW (flagW h.fl 4) ++ (lsW (restW h.fl) ++ (wStream :: Lib.decDigits h.st :: wLength :: Lib.decDigits h.ln :: left))), false) := by
  intro left
  have e := rallW (h := h) (left := left) rfl
  rw [← e, rkind_all ho.ty]
 unfold rparse lineB
 by_cases ht : h.ty = 0
 · rw [if_pos ht]
   simp only [spl_line1 (told_no hd), key, rhdr_all ho]
   simp only [List.headD_cons, read_told hd]
   rw [if_neg (by decide), if_neg (fun hc => hc ht), if_neg (by simp), if_pos ht]
 · rw [if_neg ht]
   simp only [spl_line0]
   have e0 := key []
   rw [List.append_nil] at e0
   simp only [e0, rhdr_all ho]
   rw [if_neg (by decide), if_pos ht, if_neg (by simp), if_neg ht]
theorem rkind_none (ws : Wds) (hne : ws ≠ []) : rkindW ws = none ↔ (ws.headD [] == wType || kindB (ws.headD [])) = false := by
 obtain ⟨x, r, rfl⟩ : ∃ x r, ws = x :: r := by cases ws with
  | nil => exact absurd rfl hne
  | cons x r => exact ⟨x, r, rfl⟩
 simp only [List.headD_cons, kindB, Bool.or_eq_false_iff, beq_eq_false_iff_ne]
 constructor
 · intro h
   refine ⟨?_, ⟨⟨?_, ?_⟩, ?_⟩, ?_⟩ <;> (intro e; subst e; unfold rkindW at h; simp only [isW_some] at h; repeat' split at h)
   all_goals cases h
 · rintro ⟨h1, ⟨⟨h2, h3⟩, h4⟩, h5⟩
   simp only [rkindW, isW_none h1, isW_none h2, isW_none h3, isW_none h4, isW_none h5]
theorem parse_eq (line : List UInt8) : rparse line = gparse line := by
 have h40 : rparse line = .error 40 ↔ gparse line = .error 40 := by
  rw [gparse_40, ← rkind_none _ (spl_ne 32 line)]
  constructor
  · intro e
    unfold rparse at e
    split at e
    · assumption
    · simp only at e
      repeat' split at e
      all_goals first
       | cases e
  · intro e
    unfold rparse
    rw [e]
 have rerr : ∀ c, rparse line = .error c → c = 40 ∨ c = 41 ∨ c = 15 := by
  intro c e
  unfold rparse at e
  split at e
  · injection e with e; subst e; simp
  · simp only at e
    repeat' split at e
    all_goals first
     | (injection e with e; subst e; simp)
     | cases e
 have back : ∀ h d, h.Ok → (∀ x ∈ d, 0 ≤ x ∧ x ≤ 255) → lineB h d = line → rparse line = gparse line := by
  intro h d ho hd e
  rw [← e, rparse_line ho hd, gparse_line ho hd]
 cases hg : gparse line with
 | ok x =>
   obtain ⟨h, d⟩ := x
   obtain ⟨ho, hd, e, _⟩ := gparse_ok hg
   rw [back h d ho hd e, hg]
 | error c =>
   rcases gparse_err hg with rfl | rfl | rfl
   · exact h40.2 hg
   · cases hr : rparse line with
     | ok x =>
       obtain ⟨h, d⟩ := x
       obtain ⟨ho, hd, e, _⟩ := rparse_ok hr
       have := back h d ho hd e
       rw [hg, hr] at this
       cases this
     | error c =>
       rcases rerr c hr with rfl | rfl | rfl
       · have := h40.1 hr
         rw [hg] at this
         cases this
       · rfl
       · obtain ⟨h, d, ho, hd, e, _⟩ := rparse_15 hr
         have := back h d ho hd e
         rw [hg, hr] at this
         cases this
   · obtain ⟨h, d, ho, hd, e, _⟩ := gparse_15 hg
     rw [back h d ho hd e, hg]
end Go.Proofs.YtidmgckmphcegaaGreatDoor
