/-
  Plain: two headers with one text are one header.
-/
import Derived.Test.YtfddhipdedcacaaDoorText
namespace Go.Proofs.YtfddhipdedcacaaDoor
set_option linter.unusedVariables false
set_option linter.unusedSimpArgs false
def valD (l : List UInt8) : Nat := l.foldl (fun a d => a * 10 + (d.toNat - 48)) 0
theorem dig_nat {k : Nat} (h : k < 10) : (UInt8.ofNat (48 + k)).toNat = 48 + k := by
  rw [UInt8.toNat_ofNat']; omega
theorem valD_dec (u : Nat) : valD (Lib.decDigits u) = u := by
  induction u using Nat.strongRecOn with
  | _ u ih =>
    rw [Lib.decDigits]
    by_cases h : u < 10
    · rw [dif_pos h]
      simp only [valD, List.foldl_cons, List.foldl_nil, dig_nat h]; omega
    · rw [dif_neg h]
      have e := ih (u / 10) (by omega)
      unfold valD at e ⊢
      rw [List.foldl_append, e]
      simp only [List.foldl_cons, List.foldl_nil, dig_nat (show u % 10 < 10 by omega)]; omega
theorem dec_inj {u v : Nat} (h : dec u = dec v) : u = v := by
  have e : Lib.decDigits u = Lib.decDigits v := by
    have := congrArg (fun b : ByteArray => b.data.toList) h
    simpa [dec] using this
  have := congrArg valD e
  rwa [valD_dec, valD_dec] at this
theorem dec_digits (u : Nat) : ∀ x ∈ Lib.decDigits u, 48 ≤ x.toNat ∧ x.toNat ≤ 57 := by
  induction u using Nat.strongRecOn with
  | _ u ih =>
    rw [Lib.decDigits]
    by_cases h : u < 10
    · rw [dif_pos h]
      intro x hx
      obtain rfl := List.mem_singleton.1 hx
      rw [dig_nat h]; omega
    · rw [dif_neg h]
      intro x hx
      rcases List.mem_append.1 hx with hx | hx
      · exact ih _ (by omega) x hx
      · obtain rfl := List.mem_singleton.1 hx
        rw [dig_nat (by omega)]; omega
theorem dec_ne_nil (u : Nat) : Lib.decDigits u ≠ [] := by
  rw [Lib.decDigits]; split <;> simp
/-- A word: not empty, no blank in it. -/
def Wd (b : ByteArray) : Prop := b.data.toList ≠ [] ∧ ∀ x ∈ b.data.toList, x ≠ 32
theorem dec_wd (u : Nat) : Wd (dec u) := by
  refine ⟨by simpa [dec] using dec_ne_nil u, fun x hx => ?_⟩
  have := dec_digits u x (by simpa [dec] using hx)
  rintro rfl
  exact absurd this.1 (by decide)
theorem split_blank : ∀ {a b r s : List UInt8}, (∀ x ∈ a, x ≠ 32) → (∀ x ∈ b, x ≠ 32) → (r = [] ∨ ∃ t, r = 32 :: t) → (s = [] ∨ ∃ t, s = 32 :: t) → a ++ r = b ++ s → a = b ∧ r = s
  | [], [], r, s, _, _, _, _, h => ⟨rfl, h⟩
  | [], y :: b, r, s, _, hb, hr, _, h => by
    rcases hr with rfl | ⟨t, rfl⟩
    · simp at h
    · simp only [List.nil_append, List.cons_append, List.cons.injEq] at h
      exact absurd h.1.symm (hb y (by simp))
  | x :: a, [], r, s, ha, _, _, hs, h => by
    rcases hs with rfl | ⟨t, rfl⟩
    · simp at h
    · simp only [List.nil_append, List.cons_append, List.cons.injEq] at h
      exact absurd h.1 (ha x (by simp))
  | x :: a, y :: b, r, s, ha, hb, hr, hs, h => by
    simp only [List.cons_append, List.cons.injEq] at h
    obtain ⟨e1, e2⟩ := split_blank (fun z hz => ha z (by simp [hz])) (fun z hz => hb z (by simp [hz])) hr hs h.2
    exact ⟨by rw [h.1, e1], e2⟩
def tlB (xs : List ByteArray) : List UInt8 := match xs with | [] => [] | y :: ys => 32 :: Lib.join ((y :: ys).map (·.data.toList)) [32]
theorem join_cons (x : ByteArray) (xs : List ByteArray) : Lib.join ((x :: xs).map (·.data.toList)) [32] = x.data.toList ++ tlB xs := by
  cases xs <;> simp [Lib.join, tlB, List.intercalate]
theorem tlB_form (xs : List ByteArray) : tlB xs = [] ∨ ∃ t, tlB xs = 32 :: t := by cases xs <;> simp [tlB]
theorem tlB_inj {xs ys : List ByteArray} (h : tlB xs = tlB ys) : (xs = [] ↔ ys = []) := by cases xs <;> cases ys <;> simp [tlB] at h ⊢
theorem ba_inj {a b : ByteArray} (h : a.data.toList = b.data.toList) : a = b := by
  cases a; cases b
  congr 1
  exact Array.ext' h
theorem join_inj : ∀ {xs ys : List ByteArray}, (∀ x ∈ xs, Wd x) → (∀ y ∈ ys, Wd y) → (xs = [] ↔ ys = []) → Lib.join (xs.map (·.data.toList)) [32] = Lib.join (ys.map (·.data.toList)) [32] → xs = ys
  | [], ys, _, _, h0, _ => (h0.1 rfl).symm
  | x :: xs, [], _, _, h0, _ => absurd (h0.2 rfl) (by simp)
  | x :: xs, y :: ys, hx, hy, _, h => by
    rw [join_cons, join_cons] at h
    obtain ⟨e1, e2⟩ := split_blank (hx x (by simp)).2 (hy y (by simp)).2 (tlB_form xs) (tlB_form ys) h
    obtain rfl := ba_inj e1
    have h0 := tlB_inj e2
    congr 1
    refine join_inj (fun z hz => hx z (by simp [hz])) (fun z hz => hy z (by simp [hz])) h0 ?_
    cases xs <;> cases ys <;> simp_all [tlB]
theorem tyW_wd (k : Nat) : Wd (tyW k) := by unfold tyW Wd; split <;> decide
theorem flW_wd (k : Nat) : Wd (flW k) := by unfold flW Wd; split <;> decide
theorem flagW_mem (fl : Nat) : ∀ k, ∀ x ∈ flagW fl k, ∃ j, x = flW j
  | 0 => by simp [flagW]
  | k + 1 => by
    intro x hx
    rw [flagW, List.mem_append] at hx
    rcases hx with hx | hx
    · exact flagW_mem fl k x hx
    · split at hx
      · simp at hx; exact ⟨k, hx⟩
      · simp at hx
theorem allW_wd (ver ty fl st ln : Nat) : ∀ x ∈ allW ver ty fl st ln, Wd x := by
  intro x hx
  simp only [allW, List.mem_append] at hx
  rcases hx with ((((hx | hx) | hx) | hx) | hx) | hx
  · unfold kindW at hx
    split at hx
    · simp at hx; subst hx; exact tyW_wd _
    · simp at hx; rcases hx with rfl | rfl
      · unfold Wd; decide
      · exact dec_wd _
  · unfold verW at hx
    split at hx
    · simp at hx
    · simp at hx; rcases hx with rfl | rfl
      · unfold Wd; decide
      · exact dec_wd _
  · obtain ⟨j, rfl⟩ := flagW_mem fl 4 x hx; exact flW_wd j
  · unfold restW at hx
    split at hx
    · simp at hx
    · simp at hx; rcases hx with rfl | rfl
      · unfold Wd; decide
      · exact dec_wd _
  · simp at hx; rcases hx with rfl | rfl
    · unfold Wd; decide
    · exact dec_wd _
  · simp at hx; rcases hx with rfl | rfl
    · unfold Wd; decide
    · exact dec_wd _
theorem allW_ne (ver ty fl st ln : Nat) : allW ver ty fl st ln ≠ [] := by unfold allW; simp
theorem suffix2 {l l' : List ByteArray} {a b c d b' d' : ByteArray} (h : l ++ [a, b] ++ [c, d] = l' ++ [a, b'] ++ [c, d']) : l = l' ∧ b = b' ∧ d = d' := by
  rw [List.append_assoc, List.append_assoc] at h
  obtain ⟨e1, e2⟩ := List.append_inj' h rfl
  simp at e2
  exact ⟨e1, e2.1, e2.2⟩
def fgW : ByteArray := ⟨#[102, 108, 97, 103, 115]⟩
theorem flW_ne_fg (j : Nat) : flW j ≠ fgW := by
  intro h
  have := congrArg (fun b : ByteArray => b.data.toList) h
  revert this
  unfold flW fgW
  split <;> decide
theorem flagW_mod (fl : Nat) : flagW fl 4 = flagW (fl % 16) 4 := by
  have h0 : fl / 1 % 2 = fl % 16 / 1 % 2 := by omega
  have h1 : fl / 2 % 2 = fl % 16 / 2 % 2 := by omega
  have h2 : fl / 4 % 2 = fl % 16 / 4 % 2 := by omega
  have h3 : fl / 8 % 2 = fl % 16 / 8 % 2 := by omega
  simp only [flagW, Nat.reducePow, h0, h1, h2, h3]
def bits4 (l : List ByteArray) : Nat := (if (l.any fun b => b.data.toList == [115, 121, 110]) then 1 else 0) + (if (l.any fun b => b.data.toList == [97, 99, 107]) then 2 else 0) + (if (l.any fun b => b.data.toList == [102, 105, 110]) then 4 else 0) + (if (l.any fun b => b.data.toList == [114, 115, 116]) then 8 else 0)
theorem bits4_all : ((List.range 16).all fun r => bits4 (flagW r 4) == r) = true := by decide +kernel
theorem bits4_flag (fl : Nat) : bits4 (flagW fl 4) = fl % 16 := by
  rw [flagW_mod]
  have := List.all_eq_true.1 bits4_all (fl % 16) (List.mem_range.2 (Nat.mod_lt _ (by omega)))
  simpa using this
theorem split_fg : ∀ {a b r s : List ByteArray}, (∀ x ∈ a, x ≠ fgW) → (∀ x ∈ b, x ≠ fgW) → (r = [] ∨ ∃ t, r = fgW :: t) → (s = [] ∨ ∃ t, s = fgW :: t) → a ++ r = b ++ s → a = b ∧ r = s
  | [], [], r, s, _, _, _, _, h => ⟨rfl, h⟩
  | [], y :: b, r, s, _, hb, hr, _, h => by
    rcases hr with rfl | ⟨t, rfl⟩
    · simp at h
    · simp only [List.nil_append, List.cons_append, List.cons.injEq] at h
      exact absurd h.1.symm (hb y (by simp))
  | x :: a, [], r, s, ha, _, _, hs, h => by
    rcases hs with rfl | ⟨t, rfl⟩
    · simp at h
    · simp only [List.nil_append, List.cons_append, List.cons.injEq] at h
      exact absurd h.1 (ha x (by simp))
  | x :: a, y :: b, r, s, ha, hb, hr, hs, h => by
    simp only [List.cons_append, List.cons.injEq] at h
    obtain ⟨e1, e2⟩ := split_fg (fun z hz => ha z (by simp [hz])) (fun z hz => hb z (by simp [hz])) hr hs h.2
    exact ⟨by rw [h.1, e1], e2⟩
theorem restW_form (fl : Nat) : restW fl = [] ∨ ∃ t, restW fl = fgW :: t := by unfold restW fgW; split <;> simp
theorem restW_inj {fl fl' : Nat} (h : restW fl = restW fl') : fl / 16 = fl' / 16 := by
  unfold restW at h
  split at h <;> split at h
  · omega
  · simp at h
  · simp at h
  · simp only [List.cons.injEq, and_true, true_and] at h
    have := dec_inj h; omega
theorem flags_inj {fl fl' : Nat} (h : flagW fl 4 ++ restW fl = flagW fl' 4 ++ restW fl') : fl = fl' := by
  obtain ⟨e1, e2⟩ := split_fg (fun x hx => by obtain ⟨j, rfl⟩ := flagW_mem fl 4 x hx; exact flW_ne_fg j) (fun x hx => by obtain ⟨j, rfl⟩ := flagW_mem fl' 4 x hx; exact flW_ne_fg j) (restW_form fl) (restW_form fl') h
  have h1 := congrArg bits4 e1
  rw [bits4_flag, bits4_flag] at h1
  have h2 := restW_inj e2
  omega
def vsW : ByteArray := ⟨#[118, 101, 114, 115, 105, 111, 110]⟩
theorem flags_head (fl : Nat) (t : List ByteArray) : flagW fl 4 ++ restW fl ≠ vsW :: t := by
  intro h
  have hm : vsW ∈ flagW fl 4 ++ restW fl ∨ True := .inr trivial
  cases hf : flagW fl 4 with
  | nil =>
    rw [hf, List.nil_append] at h
    rcases restW_form fl with e | ⟨u, e⟩
    · rw [e] at h; cases h
    · rw [e] at h
      have := congrArg (fun b : ByteArray => b.data.toList) (List.cons.inj h).1
      revert this; unfold fgW vsW; decide
  | cons x r =>
    rw [hf, List.cons_append] at h
    obtain ⟨j, hj⟩ := flagW_mem fl 4 x (by rw [hf]; simp)
    have := congrArg (fun b : ByteArray => b.data.toList) (hj.symm.trans (List.cons.inj h).1)
    revert this; unfold flW vsW; split <;> decide
theorem ver_inj {ver ver' fl fl' : Nat} (h : verW ver ++ (flagW fl 4 ++ restW fl) = verW ver' ++ (flagW fl' 4 ++ restW fl')) : ver = ver' ∧ fl = fl' := by
  unfold verW at h
  split at h <;> split at h
  · exact ⟨by omega, flags_inj (by simpa using h)⟩
  · exact absurd h (by rw [List.nil_append]; exact flags_head fl _)
  · exact absurd h.symm (by rw [List.nil_append]; exact flags_head fl' _)
  · simp only [List.cons_append, List.nil_append, List.cons.injEq, true_and] at h
    exact ⟨dec_inj h.1, flags_inj h.2⟩
theorem tyW_inj {i j : Nat} (hi : i < 4) (hj : j < 4) (h : tyW i = tyW j) : i = j := by
  have h' := congrArg (fun b : ByteArray => b.data.toList) h
  match i, j, hi, hj with
  | 0, 0, _, _ | 1, 1, _, _ | 2, 2, _, _ | 3, 3, _, _ => rfl
  | 0, 1, _, _ | 0, 2, _, _ | 0, 3, _, _ | 1, 0, _, _ | 1, 2, _, _ | 1, 3, _, _ | 2, 0, _, _ | 2, 1, _, _ | 2, 3, _, _ | 3, 0, _, _ | 3, 1, _, _ | 3, 2, _, _ => exact absurd h' (by decide)
theorem tyW_ne (i : Nat) : tyW i ≠ ⟨#[116, 121, 112, 101]⟩ := by
  intro h
  have h' := congrArg (fun b : ByteArray => b.data.toList) h
  revert h'; unfold tyW; split <;> decide
theorem kind_inj {ty ty' : Nat} {r r' : List ByteArray} (h : kindW ty ++ r = kindW ty' ++ r') : ty = ty' ∧ r = r' := by
  unfold kindW at h
  split at h <;> split at h
  · simp only [List.cons_append, List.nil_append, List.cons.injEq] at h
    rename_i h1 h2
    exact ⟨tyW_inj h1 h2 h.1, h.2⟩
  · simp only [List.cons_append, List.nil_append, List.cons.injEq] at h
    exact absurd h.1 (tyW_ne _)
  · simp only [List.cons_append, List.nil_append, List.cons.injEq] at h
    exact absurd h.1.symm (tyW_ne _)
  · simp only [List.cons_append, List.nil_append, List.cons.injEq, true_and] at h
    exact ⟨dec_inj h.1, h.2⟩
theorem text_inj {ver ty fl st ln ver' ty' fl' st' ln' : Nat} (h : textB ver ty fl st ln = textB ver' ty' fl' st' ln') : ver = ver' ∧ ty = ty' ∧ fl = fl' ∧ st = st' ∧ ln = ln' := by
  have e := join_inj (allW_wd ver ty fl st ln) (allW_wd ver' ty' fl' st' ln') ⟨fun h => absurd h (allW_ne _ _ _ _ _), fun h => absurd h (allW_ne _ _ _ _ _)⟩ h
  unfold allW at e
  obtain ⟨e1, e2, e3⟩ := suffix2 e
  rw [List.append_assoc, List.append_assoc, List.append_assoc, List.append_assoc] at e1
  obtain ⟨e4, e5⟩ := kind_inj e1
  obtain ⟨e6, e7⟩ := ver_inj e5
  exact ⟨e6, e4, e7, dec_inj e2, dec_inj e3⟩
end Go.Proofs.YtfddhipdedcacaaDoor
