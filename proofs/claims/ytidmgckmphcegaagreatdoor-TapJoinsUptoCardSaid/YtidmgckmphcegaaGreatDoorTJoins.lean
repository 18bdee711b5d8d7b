/-
  TapJoins, walked: Assemble of two texts, one behind the other.
-/
import Derived.Test.YtidmgckmphcegaaGreatDoorMM
import Derived.Test.YtidmgckmphcegaaGreatDoorMK
namespace Go.Proofs.YtidmgckmphcegaaGreatDoor
open Go.RowKit Go.Proofs.YtidmgckmphcegaaGreatDoorW.PrintWords Go.Proofs.YtidmgckmphcegaaGreatDoorW.PrintLast Go.Proofs.YtidmgckmphcegaaGreatDoor.Px
set_option linter.unusedVariables false
set_option linter.unusedSimpArgs false
theorem gline_err {l : List UInt8} {c : Nat} (h : gline l = .error c) : c = 40 ∨ c = 41 ∨ c = 15 := by
  unfold gline at h
  split at h
  · cases h
  · split at h
    · cases h
    · split at h
      · split at h
        · split at h
          · injection h with h; omega
          · cases h
        · injection h with h; omega
      · split at h
        · rename_i e he
          injection h with h
          exact gparse_err (by rw [he, h])
        · cases h
theorem gasmL_err : ∀ (ls : List (List UInt8)) (out : List Int) (c : Nat), gasmL ls out = .error c → c = 40 ∨ c = 41 ∨ c = 15
  | [], out, c, h => by simp [gasmL] at h
  | l :: r, out, c, h => by
    rw [gasmL] at h
    split at h
    · rename_i e he; injection h with h; exact gline_err (by rw [he, h])
    · exact gasmL_err r _ c h
theorem gasm_err {t : List UInt8} {c : Nat} (h : gasm t = .error c) : c = 40 ∨ c = 41 ∨ c = 15 := gasmL_err _ _ _ h
theorem gasmL_app : ∀ (xs ys : List (List UInt8)) (out : List Int), gasmL (xs ++ ys) out = match gasmL xs out with | .error e => .error e | .ok o => gasmL ys o
  | [], ys, out => rfl
  | l :: r, ys, out => by
    rw [List.cons_append, gasmL, gasmL]
    cases gline l with
    | error e => rfl
    | ok b => exact gasmL_app r ys _
theorem gasmL_out : ∀ (ys : List (List UInt8)) (out : List Int), gasmL ys out = match gasmL ys [] with | .error e => .error e | .ok o => .ok (out ++ o)
  | [], out => by simp [gasmL]
  | l :: r, out => by
    rw [gasmL, gasmL]
    cases gline l with
    | error e => rfl
    | ok b =>
      simp only
      rw [gasmL_out r (out ++ b), gasmL_out r ([] ++ b)]
      cases gasmL r [] with
      | error e => rfl
      | ok o => simp
theorem spl_two (c : UInt8) (b : List UInt8) : ∀ a : List UInt8, spl c (a ++ c :: b) = spl c a ++ spl c b
  | [] => by simp [spl]
  | x :: a => by
    have ih := spl_two c b a
    by_cases h : x = c
    · subst h; rw [List.cons_append, spl, spl, if_pos rfl, if_pos rfl, ih]; rfl
    · rw [List.cons_append, spl, spl, if_neg h, if_neg h, ih]
      cases hs : spl c a with
      | nil => exact absurd hs (spl_ne c a)
      | cons y r => rfl
theorem gasm_join (a b : List UInt8) : gasm (a ++ 10 :: b) = match gasm a with | .error e => .error e | .ok x => match gasm b with | .error e => .error e | .ok y => .ok (x ++ y) := by
  unfold gasm
  rw [spl_two, gasmL_app]
  cases gasmL (spl 10 a) [] with
  | error e => rfl
  | ok x => exact gasmL_out _ _
theorem gasmL_byt : ∀ (ls : List (List UInt8)) (out o : List Int), (∀ x ∈ out, 0 ≤ x ∧ x ≤ 255) → gasmL ls out = .ok o → ∀ x ∈ o, 0 ≤ x ∧ x ≤ 255
  | [], out, o, h, e => by rw [gasmL] at e; injection e with e; subst e; exact h
  | l :: r, out, o, h, e => by
    rw [gasmL] at e
    split at e
    · cases e
    · rename_i b hb
      exact gasmL_byt r _ o (fun x hx => (List.mem_append.1 hx).elim (h x) (gline_bytes hb x)) e
theorem gasm_byt {t : List UInt8} {o : List Int} (e : gasm t = .ok o) : ∀ x ∈ o, 0 ≤ x ∧ x ≤ 255 := gasmL_byt _ _ _ (by simp) e
theorem gasmL_len : ∀ (ls : List (List UInt8)) (out o : List Int), gasmL ls out = .ok o → o.length ≤ out.length + (ls.map fun l => l.length + 12).sum
  | [], out, o, e => by rw [gasmL] at e; injection e with e; subst e; simp
  | l :: r, out, o, e => by
    rw [gasmL] at e
    split at e
    · cases e
    · rename_i b hb
      have h1 := gasmL_len r _ o e
      have h2 := gline_len hb
      rw [List.length_append] at h1
      rw [List.map_cons, List.sum_cons]
      omega
theorem sum_12 : ∀ ls : List (List UInt8), (ls.map fun l => l.length + 12).sum = sumL ls + 12 * ls.length
  | [] => rfl
  | l :: r => by
    have ih := sum_12 r
    simp only [List.map_cons, List.sum_cons, List.length_cons, sumL] at ih ⊢
    omega
theorem gasm_len {t : List UInt8} {o : List Int} (e : gasm t = .ok o) : o.length ≤ 13 * t.length + 12 := by
  have h1 := gasmL_len _ _ _ e
  rw [sum_12] at h1
  have h2 := spl_sum 10 t
  have h3 := spl_count 10 t
  simp at h1
  omega
theorem sv_EV {sa : Nat → Addr} {w : World} {c : Nat} (h : c = 40 ∨ c = 41 ∨ c = 15) : EV sa w c 0 (sv (sa c)) := .inr (.inl ⟨by omega, by omega, rfl⟩)
theorem ba_join (a b : ByteArray) : (a ++ (⟨#[10]⟩ : ByteArray) ++ b).data.toList = a.data.toList ++ 10 :: b.data.toList := by simp [ByteArray.data_append]
theorem ba_size (t : ByteArray) : t.size = t.data.toList.length := by simp
set_option maxRecDepth 100000 in
set_option maxHeartbeats 4000000 in
theorem tapJoins_walk {sa : Nat → Addr} {w : World} (hE : TE sa w) (a b : ByteArray) (ha : a.size ≤ 1048576) (hb : b.size ≤ 1048576) :
    Calls Tryz.prog 8 #[.string a, .string b] w fun e w' => e = .returned (.bool true) ∧ Below w.heap.size w w' := by
  have HE := Lib.hid hE
  clear hE
  obtain ⟨t, ht⟩ : ∃ t, t = a ++ (⟨#[10]⟩ : ByteArray) ++ b := ⟨_, rfl⟩
  have htl : t.data.toList = a.data.toList ++ 10 :: b.data.toList := by rw [ht]; exact ba_join a b
  have hts : t.size ≤ 2097153 := by
    rw [ba_size, htl, List.length_append, List.length_cons]
    have h1 := ba_size a
    have h2 := ba_size b
    omega
  have HT := Lib.hid ht
  have HTL := Lib.hid htl
  clear ht htl
  go_enter Tryz.func8, Tryz.ntmps8
  go_wp2_with fail
  refine (wakes_any HE.out).mono ?_
  rintro e w1 ⟨rfl, hb1⟩
  have HB1 := Lib.hid hb1
  clear hb1
  go_wp2_with fail
  have hE1 := HE.out.below HB1.out
  refine (asm_any a (by omega) w1 hE1.good hE1.pow hE1.wrd hE1.ner hE1.mxl).mono ?_
  intro e w2 hp2
  unfold AsmTo at hp2
  have hj := gasm_join a.data.toList b.data.toList
  cases hga : gasm a.data.toList with
  | error c =>
    rw [hga] at hp2 hj
    obtain ⟨rfl, hb2⟩ := hp2
    have hc := gasm_err hga
    have HJ := Lib.hid hj
    have HB2 := Lib.hid (belowT HB1.out hb2)
    clear hb2 hga hj hE1
    go_wp2_with fail
    have hE2 := HE.out.below HB2.out
    refine (asm_any b (by omega) w2 hE2.good hE2.pow hE2.wrd hE2.ner hE2.mxl).mono ?_
    intro e w3 hp3
    have hp3' : ∃ v v', e = .returned (.tuple #[v, v']) ∧ Below w2.heap.size w2 w3 := by
      unfold AsmTo at hp3
      split at hp3
      · exact ⟨_, _, hp3⟩
      · obtain ⟨v, e1, _, e3⟩ := hp3; exact ⟨_, _, e1, e3⟩
    obtain ⟨v, v', rfl, hb3⟩ := hp3'
    have HB3 := Lib.hid (belowT HB2.out hb3)
    clear hp3 hb3 hE2
    go_wp2_with fail
    have hE3 := HE.out.below HB3.out
    rw [← HT.out]
    refine (asm_any t (by omega) w3 hE3.good hE3.pow hE3.wrd hE3.ner hE3.mxl).mono ?_
    intro e w4 hp4
    unfold AsmTo at hp4
    rw [HTL.out, HJ.out] at hp4
    obtain ⟨rfl, hb4⟩ := hp4
    have HB4 := Lib.hid (belowT HB3.out hb4)
    clear hb4 hE3
    go_wp2_with fail
    refine (code_any (sa := sa) (w := w4) (c := c) (s := 0) (v := sv (sa c)) (HE.out.below HB4.out).good (sv_EV hc)).mono ?_
    rintro e w4 ⟨rfl, rfl⟩
    go_wp2_with fail
    refine (code_any (sa := sa) (w := w4) (c := c) (s := 0) (v := sv (sa c)) (HE.out.below HB4.out).good (sv_EV hc)).mono ?_
    rintro e w4 ⟨rfl, rfl⟩
    go_wp2_with fail
    go_ret
    exact ⟨rfl, HB4.out⟩
  | ok x =>
    rw [hga] at hp2 hj
    obtain ⟨v2, rfl, ho2, hb2⟩ := hp2
    obtain ⟨A2, c2, rfl, hq2⟩ := Own.bs ho2 (gasm_byt hga)
    have HQ2 := Lib.hid hq2
    have HB2 := Lib.hid (belowT HB1.out hb2)
    clear hb2 ho2 hq2 hE1
    go_wp2_with fail
    have hE2 := HE.out.below HB2.out
    refine (asm_any b (by omega) w2 hE2.good hE2.pow hE2.wrd hE2.ner hE2.mxl).mono ?_
    intro e w3 hp3
    unfold AsmTo at hp3
    cases hgb : gasm b.data.toList with
    | error c =>
      rw [hgb] at hp3 hj
      obtain ⟨rfl, hb3⟩ := hp3
      have hc := gasm_err hgb
      have HJ := Lib.hid hj
      have HB3 := Lib.hid (belowT HB2.out hb3)
      clear hb3 hga hgb hj hE2
      go_wp2_with fail
      have hE3 := HE.out.below HB3.out
      rw [← HT.out]
      refine (asm_any t (by omega) w3 hE3.good hE3.pow hE3.wrd hE3.ner hE3.mxl).mono ?_
      intro e w4 hp4
      unfold AsmTo at hp4
      rw [HTL.out, HJ.out] at hp4
      obtain ⟨rfl, hb4⟩ := hp4
      have HB4 := Lib.hid (belowT HB3.out hb4)
      clear hb4 hE3
      go_wp2_with fail
      refine (code_any (sa := sa) (w := w4) (c := c) (s := 0) (v := sv (sa c)) (HE.out.below HB4.out).good (sv_EV hc)).mono ?_
      rintro e w4 ⟨rfl, rfl⟩
      go_wp2_with fail
      refine (code_any (sa := sa) (w := w4) (c := c) (s := 0) (v := sv (sa c)) (HE.out.below HB4.out).good (sv_EV hc)).mono ?_
      rintro e w4 ⟨rfl, rfl⟩
      go_wp2_with fail
      go_ret
      exact ⟨rfl, HB4.out⟩
    | ok y =>
      rw [hgb] at hp3 hj
      obtain ⟨v3, rfl, ho3, hb3⟩ := hp3
      obtain ⟨A3, c3, rfl, hq3⟩ := Own.bs ho3 (gasm_byt hgb)
      have hbx := gasm_byt hga
      have hby := gasm_byt hgb
      have hxl := gasm_len hga
      have hyl := gasm_len hgb
      rw [← ba_size] at hxl hyl
      have HXY := Lib.hid (show ∀ z ∈ x ++ y, 0 ≤ z ∧ z ≤ 255 from fun z hz => (List.mem_append.1 hz).elim (hbx z) (hby z))
      have HQ3 := Lib.hid hq3
      have HJ := Lib.hid hj
      have HB3 := Lib.hid (belowT HB2.out hb3)
      have HQ2' := Lib.hid (HQ2.out.next hb3)
      clear hb3 ho3 hq3 hga hgb hj hE2 hbx hby HQ2
      go_wp2_with fail
      have hE3 := HE.out.below HB3.out
      rw [← HT.out]
      refine (asm_any t (by omega) w3 hE3.good hE3.pow hE3.wrd hE3.ner hE3.mxl).mono ?_
      intro e w4 hp4
      unfold AsmTo at hp4
      rw [HTL.out, HJ.out] at hp4
      obtain ⟨v4, rfl, ho4, hb4⟩ := hp4
      obtain ⟨A4, c4, rfl, hq4⟩ := Own.bs ho4 HXY.out
      have HB4 := Lib.hid (belowT HB3.out hb4)
      have hs4 := str_of hq4
      have hs2 := str_of (HQ2'.out.next hb4)
      have hs3 := str_of (HQ3.out.next hb4)
      have hsx : strOfNums (x ++ y) = strOfNums x ++ strOfNums y := by
        unfold strOfNums
        rw [List.map_append]
        apply ByteArray.ext
        simp [ByteArray.data_append]
      rw [hsx, List.length_append] at hs4
      clear hb4 ho4 hq4 hE3 hsx HQ2' HQ3 HJ HXY
      have hxs := strOfNums_size x
      have hys := strOfNums_size y
      generalize strOfNums x = sx at *
      generalize strOfNums y = sy at *
      have hxy : ¬ 9223372036854775807 < sx.size + sy.size := by omega
      clear hxs hys hxl hyl
      have H2 := Lib.hid hs2
      have H3 := Lib.hid hs3
      have H4 := Lib.hid hs4
      clear hs2 hs3 hs4
      go_wp2_with fail
      rw [H4.out]
      go_wp2_with fail
      rw [H2.out]
      go_wp2_with fail
      rw [H3.out]
      have he : ((sx ++ sy).toList == (sx ++ sy).toList) = true := by simp
      go_wp2_with fail
      go_ret
      exact ⟨rfl, HB4.out⟩
end Go.Proofs.YtidmgckmphcegaaGreatDoor
