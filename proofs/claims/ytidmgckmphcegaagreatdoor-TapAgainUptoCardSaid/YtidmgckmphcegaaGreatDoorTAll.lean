/-
  What a tap tells in all, and what Assemble reads of it; without a program.
-/
import Derived.Test.YtidmgckmphcegaaGreatDoorML
import Derived.Test.YtidmgckmphcegaaGreatDoorMF
namespace Go.Proofs.YtidmgckmphcegaaGreatDoor
open Go.RowKit Go.Proofs.YtidmgckmphcegaaGreatDoorW.PrintWords Go.Proofs.YtidmgckmphcegaaGreatDoorW.PrintLast Go.Proofs.YtidmgckmphcegaaGreatDoor.Px
set_option linter.unusedVariables false
set_option linter.unusedSimpArgs false

def endL (most : Int) (xs : List Int) : List UInt8 := if codeX most xs = 0 then [] else brokenL (codeX most xs) (stX most xs)
/-- All that a tap tells of these bytes. -/
def tellAll (most : Int) (xs : List Int) : List UInt8 := tellL (framesX most xs) ++ endL most xs
theorem tellAll_nil (most : Int) : tellAll most [] = [] := by
  have h : cut most ([] : List Int) = ([], [], 0, 0) := cut_short (by simp)
  unfold tellAll endL framesX codeX
  rw [h]; rfl
theorem tellAll_app (most : Int) (xs ys : List Int) : tellAll most (xs ++ ys) = tellAll most xs ++ tellX most xs ys := by
  unfold tellAll tellX endL
  by_cases h : codeX most xs = 0
  · rw [if_pos h, if_pos h, List.append_nil, framesX_app, tellL_app, List.append_assoc]
  · have e0 := app_dead (ys := ys) h
    have e1 : framesX most (xs ++ ys) = framesX most xs := by unfold framesX; rw [e0]
    have e2 : codeX most (xs ++ ys) = codeX most xs := by unfold codeX; rw [e0]
    have e3 : stX most (xs ++ ys) = stX most xs := by unfold stX; rw [e0]
    rw [e1, e2, e3, if_neg h, if_neg h, List.append_nil]
theorem dec_no10 (n : Nat) : ∀ x ∈ Lib.decDigits n, x ≠ 10 := fun x hx e => by
  have h := dec_digits n x hx
  subst e
  exact absurd h.1 (by decide)
theorem lsW_no10 (ver ty fl st ln : Nat) : ∀ w ∈ lsW (allW ver ty fl st ln), ∀ x ∈ w, x ≠ 10 := by
  have hk : ∀ i, ∀ x ∈ wKind i, x ≠ 10 := by intro i; unfold wKind; split <;> decide
  have hf : ∀ i, ∀ x ∈ wFlag i, x ≠ 10 := by intro i; unfold wFlag; split <;> decide
  have h1 : ∀ x ∈ wType, x ≠ 10 := by decide
  have h2 : ∀ x ∈ wVer, x ≠ 10 := by decide
  have h3 : ∀ x ∈ wFlags, x ≠ 10 := by decide
  have h4 : ∀ x ∈ wStream, x ≠ 10 := by decide
  have h5 : ∀ x ∈ wLength, x ≠ 10 := by decide
  intro w hw
  rw [lsW_all] at hw
  simp only [List.mem_append] at hw
  rcases hw with h | h | h | h | h
  · rw [lsW_kind] at h
    split at h
    · simp only [List.mem_cons, List.not_mem_nil, or_false] at h
      subst h; exact hk _
    · simp only [List.mem_cons, List.not_mem_nil, or_false] at h
      rcases h with rfl | rfl
      · exact h1
      · exact dec_no10 _
  · rw [lsW_ver] at h
    split at h
    · cases h
    · simp only [List.mem_cons, List.not_mem_nil, or_false] at h
      rcases h with rfl | rfl
      · exact h2
      · exact dec_no10 _
  · obtain ⟨b, hb, rfl⟩ := List.mem_map.1 h
    obtain ⟨j, rfl⟩ := flagW_mem fl 4 b hb
    rw [lsW_flagk]; exact hf j
  · rw [lsW_rest] at h
    split at h
    · cases h
    · simp only [List.mem_cons, List.not_mem_nil, or_false] at h
      rcases h with rfl | rfl
      · exact h3
      · exact dec_no10 _
  · simp only [List.mem_cons, List.not_mem_nil, or_false] at h
    rcases h with rfl | rfl | rfl | rfl
    · exact h4
    · exact dec_no10 _
    · exact h5
    · exact dec_no10 _
theorem mem_join : ∀ (ws : Wds) (x : UInt8), x ∈ Lib.join ws [32] → x = 32 ∨ ∃ w ∈ ws, x ∈ w
  | [], x, h => by simp [Lib.join] at h
  | [w], x, h => by rw [join_one] at h; exact .inr ⟨w, by simp, h⟩
  | w :: v :: r, x, h => by
    rw [join_two] at h
    rcases List.mem_append.1 h with h | h
    · exact .inr ⟨w, by simp, h⟩
    · rcases List.mem_cons.1 h with h | h
      · exact .inl h
      · rcases mem_join (v :: r) x h with h | ⟨u, hu, hx⟩
        · exact .inl h
        · exact .inr ⟨u, by simp at hu ⊢; exact .inr hu, hx⟩
theorem textH_no10 (h : Hd) : ∀ x ∈ textH h, x ≠ 10 := by
  intro x hx
  rcases mem_join _ x hx with rfl | ⟨w, hw, hx⟩
  · decide
  · exact lsW_no10 _ _ _ _ _ w hw x hx
theorem hexC_no10 {n : Nat} (h : n < 16) : hexC n ≠ 10 := by
  have : ∀ k : Fin 16, hexC k ≠ 10 := by decide +kernel
  exact this ⟨n, h⟩
theorem told1_no10 (x : Int) (h1 : x ≤ 255) : ∀ y ∈ told1 x, y ≠ 10 := by
  intro y hy
  unfold told1 at hy
  split at hy
  · rename_i hp
    obtain rfl := List.mem_singleton.1 hy
    intro e
    have h2 : (UInt8.ofNat x.toNat).toNat = 10 := by rw [e]; rfl
    unfold plainN at hp
    simp at hp h2
    omega
  · simp only [List.mem_cons, List.not_mem_nil, or_false] at hy
    rcases hy with rfl | rfl | rfl
    · decide
    · exact hexC_no10 (by omega)
    · exact hexC_no10 (by omega)
theorem told_no10 {d : List Int} (h : ∀ x ∈ d, 0 ≤ x ∧ x ≤ 255) : ∀ y ∈ told d, y ≠ 10 := by
  intro y hy
  unfold told at hy
  split at hy
  · simp at hy; subst hy; decide
  · obtain ⟨x, hx, hy⟩ := List.mem_flatMap.1 hy
    exact told1_no10 x (h x hx).2 y hy
theorem lineB_no10 (h : Hd) {d : List Int} (hd : ∀ x ∈ d, 0 ≤ x ∧ x ≤ 255) : ∀ x ∈ lineB h d, x ≠ 10 := by
  intro x hx
  unfold lineB at hx
  split at hx
  · rcases List.mem_append.1 hx with hx | hx
    · exact textH_no10 h x hx
    · rcases List.mem_cons.1 hx with rfl | hx
      · decide
      · exact told_no10 hd x hx
  · exact textH_no10 h x hx
theorem textH_form {h : Hd} (h4 : h.ty < 4) : ∃ t, textH h = wKind h.ty ++ 32 :: t := by
  have e : textH h = Lib.join (lsW (allW h.ver h.ty h.fl h.st h.ln)) [32] := rfl
  rw [e, lsW_all, lsW_kind, if_pos h4, List.singleton_append]
  cases hr : lsW (verW h.ver) ++ (lsW (flagW h.fl 4) ++ (lsW (restW h.fl) ++ [wStream, Lib.decDigits h.st, wLength, Lib.decDigits h.ln])) with
  | nil => simp at hr
  | cons y ys => exact ⟨_, join_two _ _ _⟩
theorem lineB_form {h : Hd} (h4 : h.ty < 4) (d : List Int) : ∃ t, lineB h d = wKind h.ty ++ 32 :: t := by
  obtain ⟨t, ht⟩ := textH_form h4
  unfold lineB
  split
  · exact ⟨t ++ 32 :: told d, by rw [ht, List.append_assoc, List.cons_append]⟩
  · exact ⟨t, ht⟩
theorem firstW_app {w : List UInt8} (hw : w ≠ []) (hb : ∀ x ∈ w, blkB x = false) (t : List UInt8) : firstW (w ++ 32 :: t) = some w := by
  have h1 : (w ++ 32 :: t).dropWhile blkB = w ++ 32 :: t := by
    cases w with
    | nil => exact absurd rfl hw
    | cons c r => simp [List.dropWhile_cons, hb c (by simp)]
  have h2 : ∀ v : List UInt8, (∀ x ∈ v, blkB x = false) → (v ++ 32 :: t).takeWhile (fun c => !blkB c) = v := by
    intro v
    induction v with
    | nil => intro _; simp [List.takeWhile_cons, blkB]
    | cons c r ih =>
      intro hv
      rw [List.cons_append, List.takeWhile_cons, hv c (by simp)]
      simp only [Bool.not_false, if_true]
      rw [ih fun x hx => hv x (by simp [hx])]
  unfold firstW
  rw [h1, if_neg (by simp), h2 w hb]
theorem parse_back {h : Hd} (ho : h.Ok) {d : List Int} (hd : ∀ x ∈ d, 0 ≤ x ∧ x ≤ 255) (hs : (d.length : Int) = szF h.ty h.ln) : gparse (lineB h d) = .ok (h, d) := by
  rw [gparse_line ho hd]
  unfold szF at hs
  by_cases e : h.ty = 0
  · rw [if_pos e]
    rw [if_pos (by omega)] at hs
    rw [if_neg (by omega)]
  · rw [if_neg e]
    rw [if_neg (by omega)] at hs
    have : d = [] := List.eq_nil_of_length_eq_zero (by omega)
    rw [this]
theorem gline_line {h : Hd} (ho : h.Ok) (h4 : h.ty < 4) {d : List Int} (hd : ∀ x ∈ d, 0 ≤ x ∧ x ≤ 255) (hs : (d.length : Int) = szF h.ty h.ln) : gline (lineB h d) = .ok (encH h d) := by
  obtain ⟨t, ht⟩ := lineB_form h4 d
  have hk : ∀ i : Fin 4, wKind i ≠ [] ∧ (∀ x ∈ wKind i, blkB x = false) ∧ (wKind i).headD 0 ≠ 35 ∧ wKind i ≠ wBytes := by decide
  obtain ⟨k1, k2, k3, k4⟩ := hk ⟨h.ty, h4⟩
  have hf : firstW (lineB h d) = some (wKind h.ty) := by rw [ht]; exact firstW_app k1 k2 t
  unfold gline
  rw [hf]
  simp only
  rw [if_neg k3, if_neg k4, parse_back ho hd hs]
theorem hdF_ok {most : Int} {p : Fr} (h : FOk most p) : (hdF p).Ok := by
  have := h.hd.v0; have := h.hd.v1; have := h.hd.t0; have := h.hd.t1; have := h.hd.f0; have := h.hd.f1; have := h.hd.s0; have := h.hd.s1; have := h.hd.l0; have := h.hd.l1
  exact ⟨by show p.f0.f0.toNat < _; omega, by show p.f0.f1.toNat < _; omega, by show p.f0.f2.toNat < _; omega, by show p.f0.f3.toNat < _; omega, by show p.f0.f4.toNat < _; omega⟩
theorem fok_four {most : Int} {p : Fr} (h : FOk most p) : (hdF p).ty < 4 := by
  have h0 := h.hd.t0
  have h1 : ¬ 4 ≤ p.f0.f1 := fun e => by
    have := h.ok
    unfold chk at this
    by_cases hv : p.f0.f0 ≠ 0
    · rw [if_pos hv] at this; exact absurd this (by decide)
    · rw [if_neg hv, if_pos e] at this; exact absurd this (by decide)
  show p.f0.f1.toNat < 4
  omega
theorem encH_F {most : Int} {p : Fr} (h : FOk most p) : encH (hdF p) p.f1 = encF p := by
  have := h.hd.v0; have := h.hd.t0; have := h.hd.f0; have := h.hd.s0; have := h.hd.l0
  unfold encH encF hdF
  dsimp only
  rw [Int.toNat_of_nonneg (by omega), Int.toNat_of_nonneg (by omega), Int.toNat_of_nonneg (by omega), Int.toNat_of_nonneg (by omega), Int.toNat_of_nonneg (by omega)]
theorem gline_F {most : Int} {p : Fr} (h : FOk most p) : gline (lineF p) = .ok (encF p) := by
  have hs : (p.f1.length : Int) = szF (hdF p).ty (hdF p).ln := by
    rw [h.sz]
    have := h.hd.t0; have := h.hd.l0
    show szF _ _ = szF ((p.f0.f1.toNat : Nat) : Int) ((p.f0.f4.toNat : Nat) : Int)
    rw [Int.toNat_of_nonneg (by omega), Int.toNat_of_nonneg (by omega)]
  unfold lineF
  rw [gline_line (hdF_ok h) (fok_four h) h.byt hs, encH_F h]
theorem tellL_cons (p : Fr) (fs : List Fr) : tellL (p :: fs) = lineF p ++ 10 :: tellL fs := by simp [tellL]
theorem gasmL_cons (l : List UInt8) (r : List (List UInt8)) (out b : List Int) (h : gline l = .ok b) : gasmL (l :: r) out = gasmL r (out ++ b) := by
  rw [gasmL, h]
theorem gasm_tell {most : Int} (r : List UInt8) : ∀ (fs : List Fr) (out : List Int), (∀ p ∈ fs, FOk most p) → gasmL (spl 10 (tellL fs ++ r)) out = gasmL (spl 10 r) (out ++ flat fs)
  | [], out, _ => by simp [tellL, flat]
  | p :: fs, out, h => by
    have hp := h p (by simp)
    have h10 : ∀ x ∈ lineF p, x ≠ 10 := lineB_no10 (hdF p) hp.byt
    rw [tellL_cons, List.append_assoc, List.cons_append, spl_app 10 h10]
    rw [gasmL_cons _ _ _ _ (gline_F hp)]
    rw [gasm_tell r fs _ fun q hq => h q (by simp [hq]), flat_cons, List.append_assoc]
theorem whyW_no10 (c : Nat) : ∀ x ∈ whyW c, x ≠ 10 := by unfold whyW; split <;> (try split) <;> (try split) <;> (try split) <;> decide
theorem broken_no10 (c : Nat) (st : Int) : ∀ x ∈ Lib.join [wBroken, whyW c, wStream, Lib.decDigits st.toNat] [32], x ≠ 10 := by
  intro x hx
  rcases mem_join _ x hx with rfl | ⟨w, hw, hx⟩
  · decide
  · simp only [List.mem_cons, List.not_mem_nil, or_false] at hw
    rcases hw with rfl | rfl | rfl | rfl
    · exact (show ∀ x ∈ wBroken, x ≠ 10 by decide) x hx
    · exact whyW_no10 c x hx
    · exact (show ∀ x ∈ wStream, x ≠ 10 by decide) x hx
    · exact dec_no10 _ x hx
theorem gline_broken (c : Nat) (st : Int) : gline (Lib.join [wBroken, whyW c, wStream, Lib.decDigits st.toNat] [32]) = .ok [] := by
  have hf : firstW (Lib.join [wBroken, whyW c, wStream, Lib.decDigits st.toNat] [32]) = some wBroken := by
    rw [join_two]; exact firstW_app (by decide) (by decide) _
  unfold gline
  rw [hf]; rfl
theorem gasm_end (out : List Int) : gasmL (spl 10 []) out = .ok out := by
  have h : spl 10 [] = [[]] := rfl
  have g : gline [] = .ok [] := rfl
  rw [h, gasmL_cons _ _ _ _ g, List.append_nil, gasmL]
/-- What a tap has told, read again: the whole frames' bytes. -/
theorem gasm_all (most : Int) (xs : List Int) (hx : ∀ x ∈ xs, 0 ≤ x ∧ x ≤ 255) : gasm (tellAll most xs) = .ok (flat (framesX most xs)) := by
  have hall : ∀ p ∈ framesX most xs, FOk most p := (cut_all most xs hx).1
  unfold gasm tellAll
  rw [gasm_tell (most := most) _ _ _ hall, List.nil_append]
  unfold endL
  split
  · exact gasm_end _
  · have h1 := spl_app 10 (broken_no10 (codeX most xs) (stX most xs)) []
    unfold brokenL
    rw [h1]
    rw [gasmL_cons _ _ _ _ (gline_broken _ _), List.append_nil]
    exact gasm_end _
/-- Lines of frames that may be, read. -/
theorem gasm_lines {most : Int} (fs : List Fr) (h : ∀ p ∈ fs, FOk most p) : gasm (tellL fs) = .ok (flat fs) := by
  have := gasm_tell (most := most) [] fs [] h
  rw [List.append_nil, List.nil_append] at this
  unfold gasm
  rw [this]; exact gasm_end _
/-- Frames that may be are told as their lines. -/
theorem tellAll_flat {most : Int} (fs : List Fr) (h : ∀ p ∈ fs, FOk most p) : tellAll most (flat fs) = tellL fs := by
  have e := cut_flat_all fs h
  unfold tellAll endL framesX codeX
  rw [e, if_pos rfl, List.append_nil]
theorem wKind_len : ∀ i : Fin 4, (wKind i).length ≤ 6 := by decide
end Go.Proofs.YtidmgckmphcegaaGreatDoor
