/-
 The reference's numbers (culvertref25.Number), without a program: a word that it reads as n is n's decimal numeral.
-/
import Derived.Test.YtidmgckmphcegaaGreatDoorMF
import Derived.RowKit
namespace Go.Proofs.YtidmgckmphcegaaGreatDoor
open Go Go.RowKit
set_option linter.unusedVariables false
set_option linter.unusedSimpArgs false
def rdig : Int → List UInt8 → Option Int
 | n, [] => some n
 | n, c :: r => if c.toNat < 48 ∨ 57 < c.toNat then none
   else if n < -922337203685477580 ∨ n = -922337203685477580 ∧ 8 < (c.toNat : Int) - 48 then none
   else rdig (10 * n - ((c.toNat : Int) - 48)) r
def belowW (w : List UInt8) : Bool := w.headD 0 == 45
def rNum2 (b : Bool) (d : List UInt8) : Int × Bool :=
 if d = [] ∨ d.headD 0 = 48 ∧ (1 < d.length ∨ b = true) then (0, false)
 else match rdig 0 d with
  | none => (0, false)
  | some n => if b then (n, true) else (wrap64 (-n), decide (-9223372036854775807 ≤ n))
def rNumber (w : List UInt8) : Int × Bool := rNum2 (belowW w) (if belowW w then w.tail else w)
theorem valD_snoc (l : List UInt8) (c : UInt8) : valD (l ++ [c]) = valD l * 10 + (c.toNat - 48) := by simp [valD]
theorem foldl_val (l : List UInt8) : ∀ a : Nat, l.foldl (fun a d => a * 10 + (d.toNat - 48)) a = a * 10 ^ l.length + valD l := by
 induction l with
 | nil => intro a; simp [valD]
 | cons c r ih =>
   intro a
   have e : valD (c :: r) = (c.toNat - 48) * 10 ^ r.length + valD r := by
    have := ih (0 * 10 + (c.toNat - 48))
    rw [Nat.zero_mul, Nat.zero_add] at this
    rw [← this]
    unfold valD
    rw [List.foldl_cons, Nat.zero_mul, Nat.zero_add]
   rw [List.foldl_cons, ih, List.length_cons, e, Nat.pow_succ', Nat.add_mul, Nat.mul_assoc, Nat.add_assoc]
theorem valD_cons (c : UInt8) (r : List UInt8) : valD (c :: r) = (c.toNat - 48) * 10 ^ r.length + valD r := by
 rw [valD, List.foldl_cons, foldl_val]; simp
theorem dec_canon : ∀ (k : Nat) (l : List UInt8), l.length = k + 1 → (∀ x ∈ l, 48 ≤ x.toNat ∧ x.toNat ≤ 57) → (l.headD 0 = 48 → l.length = 1) → Lib.decDigits (valD l) = l
 | 0, l, hl, hd, _ => by
   obtain ⟨c, rfl⟩ := List.length_eq_one_iff.1 hl
   have hc := hd c (by simp)
   have hv : valD [c] = c.toNat - 48 := by simp [valD]
   rw [hv, Lib.decDigits_one (by omega), show 48 + (c.toNat - 48) = c.toNat by omega]
   simp
 | k + 1, l, hl, hd, h0 => by
   obtain ⟨l', c, rfl⟩ : ∃ l' c, l = l' ++ [c] := ⟨l.dropLast, l.getLast (by intro e; simp [e] at hl), (List.dropLast_concat_getLast (by intro e; simp [e] at hl)).symm⟩
   have hl' : l'.length = k + 1 := by simpa using hl
   have hc := hd c (by simp)
   have hh : (l' ++ [c]).headD 0 = l'.headD 0 := by cases l' with
    | nil => simp at hl'
    | cons y ys => rfl
   rw [hh] at h0
   have hne : l'.headD 0 ≠ 48 := fun e => by have := h0 e; simp at this; subst this; simp at hl'
   have ih := dec_canon k l' hl' (fun x hx => hd x (by simp [hx])) fun e => absurd e hne
   have hv1 : 1 ≤ valD l' := by
    cases l' with
    | nil => simp at hl'
    | cons y ys =>
      rw [valD_cons]
      have hy := hd y (by simp)
      have hy1 : y.toNat ≠ 48 := fun e => hne (UInt8.toNat.inj (by simpa using e))
      have : 1 ≤ (y.toNat - 48) * 10 ^ ys.length := Nat.mul_pos (by omega) (Nat.pow_pos (by decide))
      omega
   rw [valD_snoc]
   have e : Lib.decDigits (valD l' * 10 + (c.toNat - 48)) = Lib.decDigits (valD l') ++ [c] := by
    rw [Lib.decDigits, dif_neg (by omega), show (valD l' * 10 + (c.toNat - 48)) / 10 = valD l' by omega, show 48 + (valD l' * 10 + (c.toNat - 48)) % 10 = c.toNat by omega]
    simp
   rw [e, ih]
theorem rdig_some : ∀ (l : List UInt8) (n m : Int), n ≤ 0 → rdig n l = some m → (∀ x ∈ l, 48 ≤ x.toNat ∧ x.toNat ≤ 57) ∧ m = -((l.foldl (fun a d => a * 10 + (d.toNat - 48)) n.natAbs : Nat) : Int) ∧ -9223372036854775808 ≤ m ∧ m ≤ 0 ∨ l = []
 | [], n, m, hn, h => .inr rfl
 | c :: r, n, m, hn, h => by
   rw [rdig] at h
   split at h
   · cases h
   · split at h
     · cases h
     · rename_i h1 h2
       have hs : (10 * n - ((c.toNat : Int) - 48)).natAbs = n.natAbs * 10 + (c.toNat - 48) := by omega
       rcases rdig_some r _ m (by omega) h with ⟨ha, hb, hc⟩ | hr
       · refine .inl ⟨?_, ?_, hc⟩
         · intro x hx
           rcases List.mem_cons.1 hx with rfl | hx
           · omega
           · exact ha x hx
         · rw [List.foldl_cons, ← hs]; exact hb
       · subst hr
         rw [rdig] at h
         obtain rfl := Option.some.inj h
         refine .inl ⟨?_, ?_, by omega, by omega⟩
         · intro x hx
           obtain rfl := List.mem_singleton.1 hx
           omega
         · simp only [List.foldl_cons, List.foldl_nil]
           rw [← hs]; omega
theorem rNum2_sound {b : Bool} {d : List UInt8} {n : Int} (h : rNum2 b d = (n, true)) (h0 : 0 ≤ n) : b = false ∧ d = Lib.decDigits n.toNat := by
 unfold rNum2 at h
 split at h
 · simp at h
 · rename_i hd
   split at h
   · simp at h
   · rename_i m hm
     cases b with
     | true =>
       exfalso
       rw [if_pos rfl] at h
       simp only [Prod.mk.injEq, and_true] at h
       subst h
       cases d with
       | nil => exact hd (.inl rfl)
       | cons c r =>
         rcases rdig_some _ _ _ (by omega) hm with ⟨ha, hb2, _⟩ | hr
         · rw [Int.natAbs_zero, foldl_val, Nat.zero_mul, Nat.zero_add, valD_cons] at hb2
           have hc := ha c (by simp)
           have hne : c.toNat ≠ 48 := fun e => hd (.inr ⟨UInt8.toNat.inj (by simpa using e), .inr rfl⟩)
           have : 1 ≤ (c.toNat - 48) * 10 ^ r.length := Nat.mul_pos (by omega) (Nat.pow_pos (by decide))
           omega
         · cases hr
     | false =>
       rw [if_neg (by decide)] at h
       simp only [Prod.mk.injEq, decide_eq_true_eq] at h
       have hwne : d ≠ [] := fun e => hd (.inl e)
       rcases rdig_some _ _ _ (by omega) hm with ⟨ha, hb2, hlo, hhi⟩ | hr
       · rw [Int.natAbs_zero, foldl_val, Nat.zero_mul, Nat.zero_add] at hb2
         have hn : n = (valD d : Int) := by
          rw [← h.1]; unfold wrap64; omega
         refine ⟨rfl, ?_⟩
         rw [hn, Int.toNat_natCast]
         have hlen : d.length = d.length - 1 + 1 := by have := List.length_pos_iff.2 hwne; omega
         refine (dec_canon (d.length - 1) d hlen ha fun e => ?_).symm
         by_cases h1 : 1 < d.length
         · exact absurd (.inr ⟨e, .inl h1⟩) hd
         · omega
       · exact absurd hr hwne
theorem rNumber_sound {w : List UInt8} {n : Int} (h : rNumber w = (n, true)) (h0 : 0 ≤ n) : w = Lib.decDigits n.toNat := by
 obtain ⟨h1, h2⟩ := rNum2_sound h h0
 rw [if_neg (by rw [h1]; decide)] at h2
 exact h2
theorem rdig_dec : ∀ (l : List UInt8) (a : Nat), (∀ x ∈ l, 48 ≤ x.toNat ∧ x.toNat ≤ 57) → a * 10 ^ l.length + valD l ≤ 9223372036854775807 → rdig (-(a : Int)) l = some (-((a * 10 ^ l.length + valD l : Nat) : Int))
 | [], a, _, _ => by simp [rdig, valD]
 | c :: r, a, hd, hv => by
   have hc := hd c (by simp)
   have e : a * 10 ^ (c :: r).length + valD (c :: r) = (a * 10 + (c.toNat - 48)) * 10 ^ r.length + valD r := by
    rw [valD_cons, List.length_cons, Nat.pow_succ', Nat.add_mul, Nat.mul_assoc, Nat.add_assoc]
   rw [e] at hv ⊢
   have hp : 1 ≤ 10 ^ r.length := Nat.pow_pos (by decide)
   have hle : a * 10 + (c.toNat - 48) ≤ (a * 10 + (c.toNat - 48)) * 10 ^ r.length := Nat.le_mul_of_pos_right _ hp
   rw [rdig, if_neg (by omega), if_neg (by omega)]
   have := rdig_dec r (a * 10 + (c.toNat - 48)) (fun x hx => hd x (by simp [hx])) hv
   rw [← this]
   congr 1
   omega
theorem dec_head {n : Nat} (h : (Lib.decDigits n).headD 0 = 48) : (Lib.decDigits n).length = 1 := by
 induction n using Nat.strongRecOn with
 | ind n ih =>
   by_cases hn : n < 10
   · rw [Lib.decDigits_one hn]; rfl
   · exfalso
     rw [Lib.decDigits, dif_neg hn] at h
     have hne := dec_ne_nil (n / 10)
     have hh : (Lib.decDigits (n / 10) ++ [UInt8.ofNat (48 + n % 10)]).headD 0 = (Lib.decDigits (n / 10)).headD 0 := by
      cases hq : Lib.decDigits (n / 10) with
      | nil => exact absurd hq hne
      | cons y ys => rfl
     rw [hh] at h
     have hl := ih (n / 10) (by omega) h
     obtain ⟨c, hc⟩ := List.length_eq_one_iff.1 hl
     have hv := valD_dec (n / 10)
     rw [hc] at hv h
     simp at h
     subst h
     have : valD [48] = 0 := rfl
     omega
theorem rNumber_dec {n : Nat} (h : n ≤ 9223372036854775807) : rNumber (Lib.decDigits n) = ((n : Int), true) := by
 have hd := dec_digits n
 have hne := dec_ne_nil n
 have hb : belowW (Lib.decDigits n) = false := by
  unfold belowW
  cases hq : Lib.decDigits n with
  | nil => exact absurd hq hne
  | cons y ys =>
    have := hd y (by rw [hq]; simp)
    simp only [List.headD_cons, beq_eq_false_iff_ne]
    intro e
    subst e
    have h45 : (45 : UInt8).toNat = 45 := rfl
    omega
 have hv := valD_dec n
 have hr := rdig_dec (Lib.decDigits n) 0 hd (by rw [Nat.zero_mul, Nat.zero_add, hv]; exact h)
 rw [Nat.zero_mul, Nat.zero_add, hv] at hr
 unfold rNumber rNum2
 simp only [hb, Bool.false_eq_true, if_false]
 rw [if_neg]
 · have hr' : rdig 0 (Lib.decDigits n) = some (-(n : Int)) := hr
   rw [hr']
   simp only [Prod.mk.injEq, decide_eq_true_eq]
   exact ⟨by unfold wrap64; omega, by omega⟩
 · rintro (e | ⟨e, h1 | h1⟩)
   · exact hne e
   · have := dec_head e; omega
   · exact absurd h1 (by decide)
end Go.Proofs.YtidmgckmphcegaaGreatDoor
