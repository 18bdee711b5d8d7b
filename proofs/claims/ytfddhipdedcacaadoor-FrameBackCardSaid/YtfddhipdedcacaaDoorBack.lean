/-
  FrameBack, walked.
-/
import Derived.Test.YtfddhipdedcacaaDoorWrites
import Derived.Test.YtfddhipdedcacaaDoorReads
import Derived.Test.YtfddhipdedcacaaDoorTextInj
namespace Go.Proofs.YtfddhipdedcacaaDoor
open Go.RowKit Go.Proofs.YtfddhipdedcacaaDoorW.PrintLast
set_option linter.unusedVariables false
set_option linter.unusedSimpArgs false
theorem D_enc {ver ty fl st ln : Int} (hI : HdIn ver ty fl st ln) : D0 (enc ver ty fl st ln) = ver ∧ D1 (enc ver ty fl st ln) = ty ∧ D2 (enc ver ty fl st ln) = fl ∧ D3 (enc ver ty fl st ln) = st ∧ D4 (enc ver ty fl st ln) = ln ∧ DE (enc ver ty fl st ln) = 0 := by
  obtain ⟨v0, v1, t0, t1, f0, f1, s0, s1, l0, l1⟩ := hI
  simp only [D0, D1, D2, D3, D4, DE, enc, gd, dFl, dSt, dLn]
  simp
  omega
theorem decode_enc {sa : Nat → Addr} {A : Option Addr} {n c : Nat} {ver ty fl st ln : Int} {w : World} (hI : HdIn ver ty fl st ln) (hG : Good w sa) (hB : Bs w A n c (enc ver ty fl st ln)) :
    Calls Tryd.prog 25 #[.slice A n c] w fun e w' => e = .returned (.tuple #[hdr ver ty fl st ln, .nilIface]) ∧ Below w.heap.size w w' := by
  have h := decode_any hG hB
  obtain ⟨e0, e1, e2, e3, e4, e5⟩ := D_enc hI
  rw [e0, e1, e2, e3, e4, e5] at h
  exact h
/-- A header's box. -/
theorem HB.new (ver ty fl st ln : Int) (w : World) : HB w.heap.size ver ty fl st ln (w.alloc (.cells #[.int .u8 ver, .int .u8 ty, .int .u16 fl, .int .u32 st, .int .u32 ln] 26)) :=
  ⟨cell_blk (alloc_at _ _) rfl, cell_blk (alloc_at _ _) rfl, cell_blk (alloc_at _ _) rfl, cell_blk (alloc_at _ _) rfl, cell_blk (alloc_at _ _) rfl⟩
def eqH (a b c d e a' b' c' d' e' : Int) : Bool := decide (a = a' ∧ b = b' ∧ c = c' ∧ d = d' ∧ e = e')
theorem hdr_ite (a b c d e a' b' c' d' e' : Int) (w : World) : (if a = a' then if b = b' then if c = c' then if d = d' then if e = e' then Result.ok (Next.value (.bool true)) w else Result.ok (Next.value (.bool false)) w else Result.ok (Next.value (.bool false)) w else Result.ok (Next.value (.bool false)) w else Result.ok (Next.value (.bool false)) w else Result.ok (Next.value (.bool false)) w) = Result.ok (Next.value (.bool (eqH a b c d e a' b' c' d' e'))) w := by
  unfold eqH
  by_cases h1 : a = a' <;> by_cases h2 : b = b' <;> by_cases h3 : c = c' <;> by_cases h4 : d = d' <;> by_cases h5 : e = e' <;> simp [h1, h2, h3, h4, h5]
theorem text_eqH (ver ty fl st ln ver' ty' fl' st' ln' : Nat) : ((textB ver ty fl st ln == textB ver' ty' fl' st' ln') == eqH ver ty fl st ln ver' ty' fl' st' ln') = true := by
  unfold eqH
  by_cases h : textB ver ty fl st ln = textB ver' ty' fl' st' ln'
  · obtain ⟨rfl, rfl, rfl, rfl, rfl⟩ := text_inj h
    simp
  · have h2 : ¬ ((ver : Int) = ver' ∧ (ty : Int) = ty' ∧ (fl : Int) = fl' ∧ (st : Int) = st' ∧ (ln : Int) = ln') := fun ⟨a, b, c, d, e⟩ => h (by
      obtain rfl : ver = ver' := by omega
      obtain rfl : ty = ty' := by omega
      obtain rfl : fl = fl' := by omega
      obtain rfl : st = st' := by omega
      obtain rfl : ln = ln' := by omega
      rfl)
    simp [h, h2]
theorem D_in {ys : List Int} (hx : ∀ x ∈ ys, 0 ≤ x ∧ x ≤ 255) : HdIn (D0 ys) (D1 ys) (D2 ys) (D3 ys) (D4 ys) := by
  have hb : Bytes ys := fun j => byte_at hx rfl
  have b0 := hb 0
  have b1 := hb 1
  have b2 := hb 2
  have b3 := hb 3
  have b4 := hb 4
  have b5 := hb 5
  have b6 := hb 6
  have b7 := hb 7
  have b8 := hb 8
  have b9 := hb 9
  have b10 := hb 10
  have b11 := hb 11
  unfold D0 D1 D2 D3 D4 dFl dSt dLn
  constructor <;> split <;> omega
theorem enc_D {ys : List Int} (hx : ∀ x ∈ ys, 0 ≤ x ∧ x ≤ 255) (h : ¬ ys.length < 12) : enc (D0 ys) (D1 ys) (D2 ys) (D3 ys) (D4 ys) = ys.take 12 := by
  rcases ys with _ | ⟨y0, ys⟩
  · exact absurd (by simp) h
  rcases ys with _ | ⟨y1, ys⟩
  · exact absurd (by simp) h
  rcases ys with _ | ⟨y2, ys⟩
  · exact absurd (by simp) h
  rcases ys with _ | ⟨y3, ys⟩
  · exact absurd (by simp) h
  rcases ys with _ | ⟨y4, ys⟩
  · exact absurd (by simp) h
  rcases ys with _ | ⟨y5, ys⟩
  · exact absurd (by simp) h
  rcases ys with _ | ⟨y6, ys⟩
  · exact absurd (by simp) h
  rcases ys with _ | ⟨y7, ys⟩
  · exact absurd (by simp) h
  rcases ys with _ | ⟨y8, ys⟩
  · exact absurd (by simp) h
  rcases ys with _ | ⟨y9, ys⟩
  · exact absurd (by simp) h
  rcases ys with _ | ⟨y10, ys⟩
  · exact absurd (by simp) h
  rcases ys with _ | ⟨y11, ys⟩
  · exact absurd (by simp) h
  simp only [List.mem_cons, forall_eq_or_imp] at hx
  simp only [enc, D0, D1, D2, D3, D4, dFl, dSt, dLn, gd, if_neg h]
  simp
  omega
theorem D_short {ys : List Int} (h : ys.length < 12) : D0 ys = 0 ∧ D1 ys = 0 ∧ D2 ys = 0 ∧ D3 ys = 0 ∧ D4 ys = 0 ∧ DE ys = 3 := by
  simp [D0, D1, D2, D3, D4, DE, h]
theorem conv_run {o : Oper} {a : Act} {x : Operand} {A : Option Addr} {n c : Nat} {xs : List Int} {w : World} (hop : o.op = .convert 38 9 x) (hx : a.eval x = .slice A n c) (h : Bs w A n c xs) : (execOp a.eval o).run Tryd.prog w = .ok (.value (.string (strOfNums xs))) w := by
  unfold execOp
  simp only [hop, hx, Sem.run_bind, str_of h, Result.andThen_ok, Sem.run_pure]
theorem add_run {o : Oper} {a : Act} {x y : Operand} {t u : TypeId} {s1 s2 : ByteArray} {w : World} (hop : o.op = .binOp .add t x y u) (hx : a.eval x = .string s1) (hy : a.eval y = .string s2) (h : s1.size + s2.size ≤ 9223372036854775807) : (execOp a.eval o).run Tryd.prog w = .ok (.value (.string (s1 ++ s2))) w := by
  have h' : ¬ ((s1.size + s2.size : Nat) : Int) > IntKind.i64.max := by rw [show IntKind.i64.max = 9223372036854775807 from rfl]; omega
  unfold execOp
  simp only [hop, hx, hy, eqGuard, binOp, Op.stringOp]
  simp [Sem.run_bind, Sem.run_pure, Result.andThen_ok, show IntKind.i64.max = 9223372036854775807 from rfl]
  omega
theorem str_app (a b : List Int) : strOfNums (a ++ b) = strOfNums a ++ strOfNums b := by
  apply ByteArray.ext
  simp [strOfNums, ByteArray.data_append]
theorem Bs.take {w : World} {A : Option Addr} {n c : Nat} {xs : List Int} (h : Bs w A n c xs) (k : Nat) (hk : k ≤ n) : Bs w A k c (xs.take k) := by
  have hl := h.len
  have hc := h.cap
  refine ⟨by simp; omega, by omega, h.max, fun x hx => h.byt x (List.mem_of_mem_take hx), fun e => by obtain ⟨h1, h2⟩ := h.nil e; exact ⟨by omega, h2⟩, fun h0 => ?_⟩
  obtain ⟨b, o, e, hr⟩ := h.rd (by omega)
  refine ⟨b, o, e, fun j hj => ?_⟩
  rw [hr j (by omega)]
  simp [List.getD_eq_getElem?_getD, hj]
/-- What stays as the law runs. -/
structure KS (sa : Nat → Addr) (g3 g4 : Nat) (ver ty fl st ln ver' ty' fl' st' ln' : Int) (A : Option Addr) (n c : Nat) (xs : List Int) (B : Option Addr) (m d : Nat) (ys : List Int) (w : World) : Prop where
  good : Good w sa
  law : Lawful w
  pow : Pow10 w
  words : Words w
  bs : Bs w A n c xs
  ys : Bs w B m d ys
  bx : Bx g3 ver ty fl st ln A n c w
  hb : HB g4 ver' ty' fl' st' ln' w
set_option maxRecDepth 100000 in
set_option maxHeartbeats 1000000 in
theorem frameBack_walk {sa : Nat → Addr} {w : World} (hG : Good w sa) (hL : Lawful w) (hP : Pow10 w) (hW : Words w) (ver ty fl st ln ver' ty' fl' st' ln' : Nat) (A : Option Addr) (n c : Nat) (xs : List Int) (hB : Bs w A n c xs) (B : Option Addr) (m d : Nat) (ys : List Int) (hY : Bs w B m d ys) (hI : HdIn ver ty fl st ln) (hJ : HdIn ver' ty' fl' st' ln') (hn : n ≤ 140737488351232) (hm : m ≤ 140737488351232) :
    Calls Tryd.prog 16 #[frm ver ty fl st ln A n c, hdr ver' ty' fl' st' ln', .slice B m d] w fun e w' => e = .returned (.bool true) ∧ Below w.heap.size w w' := by
  have v0 := hI.v0
  have v1 := hI.v1
  have t0 := hI.t0
  have t1 := hI.t1
  have f0 := hI.f0
  have f1 := hI.f1
  have s0 := hI.s0
  have s1 := hI.s1
  have l0 := hI.l0
  have l1 := hI.l1
  have v1' := hJ.v1
  have t1' := hJ.t1
  have f1' := hJ.f1
  have s1' := hJ.s1
  have l1' := hJ.l1
  obtain rfl := hB.len
  obtain rfl := hY.len
  have hxb := Lib.hid hB.byt
  have hyb := Lib.hid hY.byt
  have HN := Lib.hid (enc_byt v0 v1 t0 t1 f0 f1 s0 s1 l0 l1)
  have HI := Lib.hid hI
  obtain ⟨w1, hw1⟩ : ∃ w1, w1 = (w.alloc (.cells #[.int .u8 ver, .int .u8 ty, .int .u16 fl, .int .u32 st, .int .u32 ln, .slice A xs.length c] 45)).alloc (.cells #[.int .u8 ver', .int .u8 ty', .int .u16 fl', .int .u32 st', .int .u32 ln'] 26) := ⟨_, rfl⟩
  have hb1 : Below w.heap.size w w1 := by rw [hw1]; exact ((Below.refl _ _).alloc (Nat.le_refl _) _).alloc (by simp) _
  have hU1 : Up w1 (KS sa w.heap.size (w.heap.size + 1) ver ty fl st ln ver' ty' fl' st' ln' A xs.length c xs B ys.length d ys) := by
    have hx : Bx w.heap.size ver ty fl st ln A xs.length c w1 := by rw [hw1]; exact (Bx.new _ _ _ _ _ _ _ _ w).next ((Below.refl _ _).alloc (Nat.le_refl _) _)
    have hh : HB (w.heap.size + 1) ver' ty' fl' st' ln' w1 := by
      have := HB.new ver' ty' fl' st' ln' (w.alloc (.cells #[.int .u8 ver, .int .u8 ty, .int .u16 fl, .int .u32 st, .int .u32 ln, .slice A xs.length c] 45))
      rw [hw1]; simpa using this
    exact fun w' hb => ⟨hG.below (belowT hb1 hb), hL.below (belowT hb1 hb), hP.below (belowT hb1 hb), hW.below (belowT hb1 hb), hB.next (belowT hb1 hb), hY.next (belowT hb1 hb), hx.next hb, hh.next hb⟩
  have HU1 := Lib.hid hU1
  have HB1 := Lib.hid hb1
  have HE := Lib.hid hw1
  clear hG hL hP hW hB hY hI hJ hw1 hb1 hU1
  go_enter Tryd.func16, Tryd.ntmps16
  go_wp2_with fail
  rw [← HE.out]
  clear HE
  refine (awake4 HU1.out.now.good HU1.out.now.law).mono ?_
  rintro e w2 ⟨rfl, hb2⟩
  have HU := Lib.hid (HU1.out.next hb2)
  have HB2 := Lib.hid (belowT HB1.out hb2)
  clear hb2 HU1 HB1
  obtain ⟨e0, e1, e2, e3, e4, e5⟩ := HU.out.now.bx
  go_wp2_with fail
  refine (encode_any ver ty fl st ln _ f0 f1 s0 s1 l0 l1).mono ?_
  rintro e w3 ⟨g3, rfl, ho3, hb3⟩
  have HQ3 := Lib.hid (own_bs12 ho3 HN.out rfl)
  have HB3 := Lib.hid hb3
  clear ho3 hb3 e0 e1 e2 e3 e4 e5
  go_wp2_with fail
  refine (decode_enc HI.out (HU.out.at_ HB3.out).good HQ3.out).mono ?_
  rintro e w4 ⟨rfl, hb4⟩
  have HB4 := Lib.hid (belowT HB3.out hb4)
  clear hb4 HB3 HQ3
  go_wp2_with fail
  obtain ⟨w5, hw5⟩ : ∃ w5, w5 = w4.alloc (.cells #[.int .u8 ver, .int .u8 ty, .int .u16 fl, .int .u32 st, .int .u32 ln] 26) := ⟨_, rfl⟩
  have HB45 := Lib.hid (show Below w4.heap.size w4 w5 by rw [hw5]; exact (Below.refl _ _).alloc (Nat.le_refl _) _)
  have HH5 := Lib.hid (show HB w4.heap.size ver ty fl st ln w5 by rw [hw5]; exact HB.new _ _ _ _ _ _)
  have HX5 := Lib.hid (show w5.heap[w4.heap.size]? = some (.cells #[.int .u8 ver, .int .u8 ty, .int .u16 fl, .int .u32 st, .int .u32 ln] 26 (0, 0)) by rw [hw5]; exact alloc_at _ _)
  have HB5 := Lib.hid (belowT HB4.out HB45.out)
  have HK5 := Lib.hid (HU.out.at_ HB5.out)
  have hT : ((textB ver ty fl st ln == textB ver' ty' fl' st' ln') == eqH ver ty fl st ln ver' ty' fl' st' ln') = true := text_eqH _ _ _ _ _ _ _ _ _ _
  rw [← hw5]
  clear hw5
  refine start_ (n := 19) (S := fun w' => w'.cell? ⟨w4.heap.size, 0, none⟩ = some (.int .u8 ver) ∧ w'.cell? ⟨w4.heap.size, 1, none⟩ = some (.int .u8 ty) ∧ w'.cell? ⟨w4.heap.size, 2, none⟩ = some (.int .u16 fl) ∧ w'.cell? ⟨w4.heap.size, 3, none⟩ = some (.int .u32 st) ∧ w'.cell? ⟨w4.heap.size, 4, none⟩ = some (.int .u32 ln) ∧ w'.cell? ⟨w.heap.size, 0, none⟩ = some (.int .u8 ver) ∧ w'.cell? ⟨w.heap.size, 1, none⟩ = some (.int .u8 ty) ∧ w'.cell? ⟨w.heap.size, 2, none⟩ = some (.int .u16 fl) ∧ w'.cell? ⟨w.heap.size, 3, none⟩ = some (.int .u32 st) ∧ w'.cell? ⟨w.heap.size, 4, none⟩ = some (.int .u32 ln) ∧ w'.cell? ⟨w.heap.size + 1, 0, none⟩ = some (.int .u8 ver') ∧ w'.cell? ⟨w.heap.size + 1, 1, none⟩ = some (.int .u8 ty') ∧ w'.cell? ⟨w.heap.size + 1, 2, none⟩ = some (.int .u16 fl') ∧ w'.cell? ⟨w.heap.size + 1, 3, none⟩ = some (.int .u32 st') ∧ w'.cell? ⟨w.heap.size + 1, 4, none⟩ = some (.int .u32 ln') ∧ Hid (Below w5.heap.size w5 w')) (ds := []) #[false, false, false, false, false, false, false, false, false, false, false, false, false, false, false, false, false, false, false] (by kernel_rfl) rfl rfl (⟨HH5.out.1, HH5.out.2.1, HH5.out.2.2.1, HH5.out.2.2.2.1, HH5.out.2.2.2.2, HK5.out.bx.1, HK5.out.bx.2.1, HK5.out.bx.2.2.1, HK5.out.bx.2.2.2.1, HK5.out.bx.2.2.2.2.1, HK5.out.hb.1, HK5.out.hb.2.1, HK5.out.hb.2.2.1, HK5.out.hb.2.2.2.1, HK5.out.hb.2.2.2.2, Lib.hid (Below.refl _ _).drew⟩) (fun hHeld => ?_)
  refine pure_ (i := 0) (N := some 19) (v := ?_) (a' := ?_) #[true, false, false, false, false, false, false, false, false, false, false, false, false, false, false, false, false, false, false] rfl rfl (by kernel_rfl) (fun _ _ _ h => h) (Or.inl ⟨by rfl, ?_⟩) ?_ ?_
  rotate_left
  · intro w'
    go_simp
    with_reducible rfl
  rotate_left
  · simp only [Act.put, List.setIfInBounds_toArray, List.set_cons_zero, List.set_cons_succ, i64_w, i32_w]
    rfl
  refine pure_ (i := 1) (N := some 20) (v := ?_) (a' := ?_) #[true, true, false, false, false, false, false, false, false, false, false, false, false, false, false, false, false, false, false] rfl rfl (by kernel_rfl) (fun _ _ _ h => h) (Or.inl ⟨by rfl, ?_⟩) ?_ ?_
  rotate_left
  · intro w'
    go_simp
    with_reducible rfl
  rotate_left
  · simp only [Act.put, List.setIfInBounds_toArray, List.set_cons_zero, List.set_cons_succ, i64_w, i32_w]
    rfl
  refine pure_ (i := 2) (N := some 21) (v := ?_) (a' := ?_) #[true, true, true, false, false, false, false, false, false, false, false, false, false, false, false, false, false, false, false] rfl rfl (by kernel_rfl) (fun _ _ _ h => h) (Or.inl ⟨by rfl, ?_⟩) ?_ ?_
  rotate_left
  · intro w'
    go_simp
    with_reducible rfl
  rotate_left
  · simp only [Act.put, List.setIfInBounds_toArray, List.set_cons_zero, List.set_cons_succ, i64_w, i32_w]
    rfl
  refine pure_ (i := 4) (N := some 23) (v := ?_) (a' := ?_) #[true, true, true, false, true, false, false, false, false, false, false, false, false, false, false, false, false, false, false] rfl rfl (by kernel_rfl) (fun _ _ _ h => h) (Or.inl ⟨by rfl, ?_⟩) ?_ ?_
  rotate_left
  · intro w'
    go_simp
    with_reducible rfl
  rotate_left
  · simp only [Act.put, List.setIfInBounds_toArray, List.set_cons_zero, List.set_cons_succ, i64_w, i32_w]
    rfl
  refine take_ (i := 3) (N := some 22) (v := ?_) (a' := ?_) #[true, true, true, true, true, false, false, false, false, false, false, false, false, false, false, false, false, false, false] rfl rfl (by kernel_rfl) (fun _ _ _ h => h) (Or.inl ⟨by rfl, ?_⟩) hHeld ?_ ?_
  rotate_left
  · rintro w' ⟨s0, s1, s2, s3, s4, s5, s6, s7, s8, s9, s10, s11, s12, s13, s14, s15⟩
    go_simp
    with_reducible rfl
  rotate_left
  · simp only [Act.put, List.setIfInBounds_toArray, List.set_cons_zero, List.set_cons_succ, i64_w, i32_w]
    rfl
  refine take_ (i := 5) (N := some 24) (v := ?_) (a' := ?_) #[true, true, true, true, true, true, false, false, false, false, false, false, false, false, false, false, false, false, false] rfl rfl (by kernel_rfl) (fun _ _ _ h => h) (Or.inl ⟨by rfl, ?_⟩) hHeld ?_ ?_
  rotate_left
  · rintro w' ⟨s0, s1, s2, s3, s4, s5, s6, s7, s8, s9, s10, s11, s12, s13, s14, s15⟩
    go_simp
    with_reducible rfl
  rotate_left
  · simp only [Act.put, List.setIfInBounds_toArray, List.set_cons_zero, List.set_cons_succ, i64_w, i32_w]
    rfl
  refine pure_ (i := 6) (N := some 25) (v := ?_) (a' := ?_) #[true, true, true, true, true, true, true, false, false, false, false, false, false, false, false, false, false, false, false] rfl rfl (by kernel_rfl) (fun _ _ _ h => h) (Or.inl ⟨by rfl, ?_⟩) ?_ ?_
  rotate_left
  · intro w'
    go_simp
    with_reducible rfl
  rotate_left
  · simp only [Act.put, List.setIfInBounds_toArray, List.set_cons_zero, List.set_cons_succ, i64_w, i32_w]
    rfl
  refine pure_ (i := 7) (N := some 26) (v := ?_) (a' := ?_) #[true, true, true, true, true, true, true, true, false, false, false, false, false, false, false, false, false, false, false] rfl rfl (by kernel_rfl) (fun _ _ _ h => h) (Or.inl ⟨by rfl, ?_⟩) ?_ ?_
  rotate_left
  · intro w'
    go_simp
    with_reducible rfl
  rotate_left
  · simp only [Act.put, List.setIfInBounds_toArray, List.set_cons_zero, List.set_cons_succ, i64_w, i32_w]
    rfl
  refine pure_ (i := 8) (N := some 27) (v := ?_) (a' := ?_) #[true, true, true, true, true, true, true, true, true, false, false, false, false, false, false, false, false, false, false] rfl rfl (by kernel_rfl) (fun _ _ _ h => h) (Or.inl ⟨by rfl, ?_⟩) ?_ ?_
  rotate_left
  · intro w'
    go_simp
    with_reducible rfl
  rotate_left
  · simp only [Act.put, List.setIfInBounds_toArray, List.set_cons_zero, List.set_cons_succ, i64_w, i32_w]
    rfl
  refine take_ (i := 9) (N := some 28) (v := ?_) (a' := ?_) #[true, true, true, true, true, true, true, true, true, true, false, false, false, false, false, false, false, false, false] rfl rfl (by kernel_rfl) (fun _ _ _ h => h) (Or.inl ⟨by rfl, ?_⟩) hHeld ?_ ?_
  rotate_left
  · rintro w' ⟨s0, s1, s2, s3, s4, s5, s6, s7, s8, s9, s10, s11, s12, s13, s14, s15⟩
    go_simp
    with_reducible rfl
  rotate_left
  · simp only [Act.put, List.setIfInBounds_toArray, List.set_cons_zero, List.set_cons_succ, i64_w, i32_w]
    rfl
  refine take_ (i := 11) (N := some 30) (v := ?_) (a' := ?_) #[true, true, true, true, true, true, true, true, true, true, false, true, false, false, false, false, false, false, false] rfl rfl (by kernel_rfl) (fun _ _ _ h => h) (Or.inl ⟨by rfl, ?_⟩) hHeld ?_ ?_
  rotate_left
  · rintro w' ⟨s0, s1, s2, s3, s4, s5, s6, s7, s8, s9, s10, s11, s12, s13, s14, s15⟩
    go_simp
    with_reducible rfl
  rotate_left
  · simp only [Act.put, List.setIfInBounds_toArray, List.set_cons_zero, List.set_cons_succ, i64_w, i32_w]
    rfl
  refine take_ (i := 14) (N := some 33) (v := ?_) (a' := ?_) #[true, true, true, true, true, true, true, true, true, true, false, true, false, false, true, false, false, false, false] rfl rfl (by kernel_rfl) (fun _ _ _ h => h) (Or.inl ⟨by rfl, ?_⟩) hHeld ?_ ?_
  rotate_left
  · rintro w' ⟨s0, s1, s2, s3, s4, s5, s6, s7, s8, s9, s10, s11, s12, s13, s14, s15⟩
    go_simp
    with_reducible rfl
  rotate_left
  · simp only [Act.put, List.setIfInBounds_toArray, List.set_cons_zero, List.set_cons_succ, i64_w, i32_w]
    rfl
  refine take_ (i := 15) (N := some 34) (v := ?_) (a' := ?_) #[true, true, true, true, true, true, true, true, true, true, false, true, false, false, true, true, false, false, false] rfl rfl (by kernel_rfl) (fun _ _ _ h => h) (Or.inl ⟨by rfl, ?_⟩) hHeld ?_ ?_
  rotate_left
  · rintro w' ⟨s0, s1, s2, s3, s4, s5, s6, s7, s8, s9, s10, s11, s12, s13, s14, s15⟩
    go_simp
    with_reducible rfl
  rotate_left
  · simp only [Act.put, List.setIfInBounds_toArray, List.set_cons_zero, List.set_cons_succ, i64_w, i32_w]
    rfl
  refine pure_ (i := 16) (N := some 35) (v := ?_) (a' := ?_) #[true, true, true, true, true, true, true, true, true, true, false, true, false, false, true, true, true, false, false] rfl rfl (by kernel_rfl) (fun _ _ _ h => h) (Or.inl ⟨by rfl, ?_⟩) ?_ ?_
  rotate_left
  · intro w'
    go_simp
    exact hdr_ite _ _ _ _ _ _ _ _ _ _ _
  rotate_left
  · simp only [Act.put, List.setIfInBounds_toArray, List.set_cons_zero, List.set_cons_succ, i64_w, i32_w]
    rfl
  refine one_ (i := 10) (N := some 29) #[true, true, true, true, true, true, true, true, true, true, true, true, false, false, true, true, true, false, false] rfl rfl (by kernel_rfl) (by decide) (fun K hK => ?_)
  refine goes_ Tryd.func45 (by kernel_rfl) rfl #[hdr ver ty fl st ln] (by rfl) rfl rfl (by simp only [List.map_toArray, List.map_cons, List.map_nil]; rfl) ?_
  with_reducible refine (text_any ver ty fl st ln _ (by omega) (by omega) (by omega) (by omega) (by omega) (HU.out.at_ (belowT HB5.out hHeld.2.2.2.2.2.2.2.2.2.2.2.2.2.2.2.out)).pow (HU.out.at_ (belowT HB5.out hHeld.2.2.2.2.2.2.2.2.2.2.2.2.2.2.2.out)).words).mono ?_
  rintro e w6 ⟨rfl, hb6⟩
  refine ⟨_, rfl, ?_⟩
  have HB6 := Lib.hid hb6
  clear hb6
  refine hK.out _ _ (⟨keepA HB6.out hHeld.1, keepA HB6.out hHeld.2.1, keepA HB6.out hHeld.2.2.1, keepA HB6.out hHeld.2.2.2.1, keepA HB6.out hHeld.2.2.2.2.1, keepA HB6.out hHeld.2.2.2.2.2.1, keepA HB6.out hHeld.2.2.2.2.2.2.1, keepA HB6.out hHeld.2.2.2.2.2.2.2.1, keepA HB6.out hHeld.2.2.2.2.2.2.2.2.1, keepA HB6.out hHeld.2.2.2.2.2.2.2.2.2.1, keepA HB6.out hHeld.2.2.2.2.2.2.2.2.2.2.1, keepA HB6.out hHeld.2.2.2.2.2.2.2.2.2.2.2.1, keepA HB6.out hHeld.2.2.2.2.2.2.2.2.2.2.2.2.1, keepA HB6.out hHeld.2.2.2.2.2.2.2.2.2.2.2.2.2.1, keepA HB6.out hHeld.2.2.2.2.2.2.2.2.2.2.2.2.2.2.1, Lib.hid (belowT hHeld.2.2.2.2.2.2.2.2.2.2.2.2.2.2.2.out HB6.out)⟩) (fun hHeld => ?_)
  clear hK K
  refine norm_ (a' := ?_) ?_ ?_
  rotate_left
  · show Act.put _ (some 29) _ = _
    simp only [Act.put, List.setIfInBounds_toArray, List.set_cons_zero, List.set_cons_succ, i64_w, i32_w]
    rfl
  refine one_ (i := 12) (N := some 31) #[true, true, true, true, true, true, true, true, true, true, true, true, true, false, true, true, true, false, false] rfl rfl (by kernel_rfl) (by decide) (fun K hK => ?_)
  refine goes_ Tryd.func45 (by kernel_rfl) rfl #[hdr ver' ty' fl' st' ln'] (by rfl) rfl rfl (by simp only [List.map_toArray, List.map_cons, List.map_nil]; rfl) ?_
  with_reducible refine (text_any ver' ty' fl' st' ln' _ (by omega) (by omega) (by omega) (by omega) (by omega) (HU.out.at_ (belowT HB5.out hHeld.2.2.2.2.2.2.2.2.2.2.2.2.2.2.2.out)).pow (HU.out.at_ (belowT HB5.out hHeld.2.2.2.2.2.2.2.2.2.2.2.2.2.2.2.out)).words).mono ?_
  rintro e w7 ⟨rfl, hb7⟩
  refine ⟨_, rfl, ?_⟩
  have HB7 := Lib.hid hb7
  clear hb7
  refine hK.out _ _ (⟨keepA HB7.out hHeld.1, keepA HB7.out hHeld.2.1, keepA HB7.out hHeld.2.2.1, keepA HB7.out hHeld.2.2.2.1, keepA HB7.out hHeld.2.2.2.2.1, keepA HB7.out hHeld.2.2.2.2.2.1, keepA HB7.out hHeld.2.2.2.2.2.2.1, keepA HB7.out hHeld.2.2.2.2.2.2.2.1, keepA HB7.out hHeld.2.2.2.2.2.2.2.2.1, keepA HB7.out hHeld.2.2.2.2.2.2.2.2.2.1, keepA HB7.out hHeld.2.2.2.2.2.2.2.2.2.2.1, keepA HB7.out hHeld.2.2.2.2.2.2.2.2.2.2.2.1, keepA HB7.out hHeld.2.2.2.2.2.2.2.2.2.2.2.2.1, keepA HB7.out hHeld.2.2.2.2.2.2.2.2.2.2.2.2.2.1, keepA HB7.out hHeld.2.2.2.2.2.2.2.2.2.2.2.2.2.2.1, Lib.hid (belowT hHeld.2.2.2.2.2.2.2.2.2.2.2.2.2.2.2.out HB7.out)⟩) (fun hHeld => ?_)
  clear hK K
  refine norm_ (a' := ?_) ?_ ?_
  rotate_left
  · show Act.put _ (some 31) _ = _
    simp only [Act.put, List.setIfInBounds_toArray, List.set_cons_zero, List.set_cons_succ, i64_w, i32_w]
    rfl
  refine pure_ (i := 13) (N := some 32) (v := ?_) (a' := ?_) #[true, true, true, true, true, true, true, true, true, true, true, true, true, true, true, true, true, false, false] rfl rfl (by kernel_rfl) (fun _ _ _ h => h) (Or.inl ⟨by rfl, ?_⟩) ?_ ?_
  rotate_left
  · intro w'
    go_simp
    with_reducible rfl
  rotate_left
  · simp only [Act.put, List.setIfInBounds_toArray, List.set_cons_zero, List.set_cons_succ, i64_w, i32_w]
    rfl
  refine pure_ (i := 17) (N := some 36) (v := ?_) (a' := ?_) #[true, true, true, true, true, true, true, true, true, true, true, true, true, true, true, true, true, true, false] rfl rfl (by kernel_rfl) (fun _ _ _ h => h) (Or.inl ⟨by rfl, ?_⟩) ?_ ?_
  rotate_left
  · intro w'
    go_simp
    with_reducible rfl
  rotate_left
  · simp only [Act.put, List.setIfInBounds_toArray, List.set_cons_zero, List.set_cons_succ, i64_w, i32_w]
    rfl
  refine pure_ (i := 18) (N := some 37) (v := ?_) (a' := ?_) #[true, true, true, true, true, true, true, true, true, true, true, true, true, true, true, true, true, true, true] rfl rfl (by kernel_rfl) (fun _ _ _ h => h) (Or.inl ⟨by rfl, ?_⟩) ?_ ?_
  rotate_left
  · intro w'
    go_simp
    with_reducible rfl
  rotate_left
  · simp only [Act.put, List.setIfInBounds_toArray, List.set_cons_zero, List.set_cons_succ, i64_w, i32_w]
    rfl
  refine done_ (by kernel_rfl) ?_
  have HB57 := Lib.hid hHeld.2.2.2.2.2.2.2.2.2.2.2.2.2.2.2.out
  clear hHeld HB6 HB7
  have HX7 := Lib.hid (keepB HB57.out HX5.out)
  have HB7 := Lib.hid (belowT HB5.out HB57.out)
  have HK7 := Lib.hid (HU.out.at_ HB7.out)
  have hg7 : w4.heap.size < w7.heap.size := (Array.getElem?_eq_some_iff.1 HX7.out).1
  clear HX5 HH5 HK5 HB5 HB45 HB57
  go_wp2_with (at_builtin; refine wpList_append_bs rfl _ _ rfl w7.heap.size (.slice (some ⟨w7.heap.size, 0, none⟩) 0 0) [] rfl (own_new w7 w7.heap.size [] (Nat.le_refl _) (by simp)) B ys.length d ys rfl (HK7.out.ys.next ((Below.refl _ _).alloc (Nat.le_refl _) _)) (by simp; omega) (by simp) ?_; intro v8 w8 ho8 hg8 _; have HB8 := Lib.hid (show Below w7.heap.size w7 w8 from ((Below.refl _ _).alloc (Nat.le_refl _) _).grown hg8 (by simp) (fun k hk => by simp [Value.ownBlock] at hk; omega)); have HO8 := Lib.hid (show Own w8 w7.heap.size v8 ys from ho8); clear ho8 hg8)
  obtain ⟨A8, c8, rfl, hq8⟩ := Own.bs HO8.out hyb.out
  have HX8 := Lib.hid (keepB HB8.out HX7.out)
  have HBB8 := Lib.hid (belowT HB7.out HB8.out)
  have hdec := decode_any (HU.out.at_ HBB8.out).good hq8
  clear hq8 HO8 HX7 HB8 HB7 HK7
  obtain ⟨zs, hzs⟩ : ∃ zs, zs = enc ver ty fl st ln ++ xs := ⟨_, rfl⟩
  have HNx := Lib.hid (show ∀ x ∈ zs, 0 ≤ x ∧ x ≤ 255 by rw [hzs]; exact fun x hx => (List.mem_append.1 hx).elim (HN.out x) (hxb.out x))
  have HZ := Lib.hid hzs
  clear hzs
  have HLs := Lib.hid (show (enc (ver : Int) ty fl st ln).length + xs.length ≤ 9223372036854775807 by simp [enc]; omega)
  by_cases hlt : ys.length < 12
  · obtain ⟨d0, d1, d2, d3, d4, d5⟩ := D_short hlt
    rw [d0, d1, d2, d3, d4, d5] at hdec
    clear d0 d1 d2 d3 d4 d5
    refine hdec.mono ?_
    rintro e w9 ⟨rfl, hb9⟩
    have HX9 := Lib.hid (keepB hb9 HX8.out)
    have HB9 := Lib.hid (belowT HBB8.out hb9)
    clear hb9 HX8 HBB8 hdec
    have p0 : w9.cell? ⟨w4.heap.size, 0, none⟩ = some (.int .u8 ver) := cell_blk HX9.out rfl
    have p1 : w9.cell? ⟨w4.heap.size, 1, none⟩ = some (.int .u8 ty) := cell_blk HX9.out rfl
    have p2 : w9.cell? ⟨w4.heap.size, 2, none⟩ = some (.int .u16 fl) := cell_blk HX9.out rfl
    have p3 : w9.cell? ⟨w4.heap.size, 3, none⟩ = some (.int .u32 st) := cell_blk HX9.out rfl
    have p4 : w9.cell? ⟨w4.heap.size, 4, none⟩ = some (.int .u32 ln) := cell_blk HX9.out rfl
    have q0 : w9.frozen? ⟨w4.heap.size, 0, none⟩ = false := free_blk HX9.out
    have q1 : w9.frozen? ⟨w4.heap.size, 1, none⟩ = false := free_blk HX9.out
    have q2 : w9.frozen? ⟨w4.heap.size, 2, none⟩ = false := free_blk HX9.out
    have q3 : w9.frozen? ⟨w4.heap.size, 3, none⟩ = false := free_blk HX9.out
    have q4 : w9.frozen? ⟨w4.heap.size, 4, none⟩ = false := free_blk HX9.out
    have hdl : decide (12 ≤ ys.length) = false := by simp; omega
    have hev : errv sa 3 = sv (sa 3) := rfl
    go_wp2_with fail
    refine start_ (n := 11) (S := fun w' => True) (ds := []) #[false, false, false, false, false, false, false, false, false, false, false] (by kernel_rfl) rfl rfl (trivial) (fun hHeld => ?_)
    refine pure_ (i := 0) (N := some 51) (v := ?_) (a' := ?_) #[true, false, false, false, false, false, false, false, false, false, false] rfl rfl (by kernel_rfl) (fun _ _ _ h => h) (Or.inl ⟨by rfl, ?_⟩) ?_ ?_
    rotate_left
    · intro w'
      go_simp
      with_reducible rfl
    rotate_left
    · simp only [Act.put, List.setIfInBounds_toArray, List.set_cons_zero, List.set_cons_succ, i64_w, i32_w]
      rfl
    refine pure_ (i := 1) (N := some 52) (v := ?_) (a' := ?_) #[true, true, false, false, false, false, false, false, false, false, false] rfl rfl (by kernel_rfl) (fun _ _ _ h => h) (Or.inl ⟨by rfl, ?_⟩) ?_ ?_
    rotate_left
    · intro w'
      go_simp
      with_reducible rfl
    rotate_left
    · simp only [Act.put, List.setIfInBounds_toArray, List.set_cons_zero, List.set_cons_succ, i64_w, i32_w]
      rfl
    refine pure_ (i := 2) (N := some 53) (v := ?_) (a' := ?_) #[true, true, true, false, false, false, false, false, false, false, false] rfl rfl (by kernel_rfl) (fun _ _ _ h => h) (Or.inl ⟨by rfl, ?_⟩) ?_ ?_
    rotate_left
    · intro w'
      go_simp
      with_reducible rfl
    rotate_left
    · simp only [Act.put, List.setIfInBounds_toArray, List.set_cons_zero, List.set_cons_succ, i64_w, i32_w]
      rfl
    refine pure_ (i := 3) (N := some 54) (v := undef) (a' := ?_) #[true, true, true, true, false, false, false, false, false, false, false] rfl rfl (by kernel_rfl) (fun _ _ _ h => h) (Or.inr ⟨by rfl, rfl⟩) ?_ ?_
    rotate_left
    · simp only [Act.put, List.setIfInBounds_toArray, List.set_cons_zero, List.set_cons_succ, i64_w, i32_w]
      rfl
    refine pure_ (i := 4) (N := some 55) (v := undef) (a' := ?_) #[true, true, true, true, true, false, false, false, false, false, false] rfl rfl (by kernel_rfl) (fun _ _ _ h => h) (Or.inr ⟨by rfl, rfl⟩) ?_ ?_
    rotate_left
    · simp only [Act.put, List.setIfInBounds_toArray, List.set_cons_zero, List.set_cons_succ, i64_w, i32_w]
      rfl
    refine pure_ (i := 5) (N := some 56) (v := undef) (a' := ?_) #[true, true, true, true, true, true, false, false, false, false, false] rfl rfl (by kernel_rfl) (fun _ _ _ h => h) (Or.inr ⟨by rfl, rfl⟩) ?_ ?_
    rotate_left
    · simp only [Act.put, List.setIfInBounds_toArray, List.set_cons_zero, List.set_cons_succ, i64_w, i32_w]
      rfl
    refine pure_ (i := 6) (N := some 57) (v := undef) (a' := ?_) #[true, true, true, true, true, true, true, false, false, false, false] rfl rfl (by kernel_rfl) (fun _ _ _ h => h) (Or.inr ⟨by rfl, rfl⟩) ?_ ?_
    rotate_left
    · simp only [Act.put, List.setIfInBounds_toArray, List.set_cons_zero, List.set_cons_succ, i64_w, i32_w]
      rfl
    refine pure_ (i := 7) (N := some 58) (v := undef) (a' := ?_) #[true, true, true, true, true, true, true, true, false, false, false] rfl rfl (by kernel_rfl) (fun _ _ _ h => h) (Or.inr ⟨by rfl, rfl⟩) ?_ ?_
    rotate_left
    · simp only [Act.put, List.setIfInBounds_toArray, List.set_cons_zero, List.set_cons_succ, i64_w, i32_w]
      rfl
    refine pure_ (i := 8) (N := some 59) (v := undef) (a' := ?_) #[true, true, true, true, true, true, true, true, true, false, false] rfl rfl (by kernel_rfl) (fun _ _ _ h => h) (Or.inr ⟨by rfl, rfl⟩) ?_ ?_
    rotate_left
    · simp only [Act.put, List.setIfInBounds_toArray, List.set_cons_zero, List.set_cons_succ, i64_w, i32_w]
      rfl
    refine pure_ (i := 9) (N := some 60) (v := undef) (a' := ?_) #[true, true, true, true, true, true, true, true, true, true, false] rfl rfl (by kernel_rfl) (fun _ _ _ h => h) (Or.inr ⟨by rfl, rfl⟩) ?_ ?_
    rotate_left
    · simp only [Act.put, List.setIfInBounds_toArray, List.set_cons_zero, List.set_cons_succ, i64_w, i32_w]
      rfl
    refine pure_ (i := 10) (N := some 61) (v := ?_) (a' := ?_) #[true, true, true, true, true, true, true, true, true, true, true] rfl rfl (by kernel_rfl) (fun _ _ _ h => h) (Or.inl ⟨by rfl, ?_⟩) ?_ ?_
    rotate_left
    · intro w'
      go_simp
      with_reducible rfl
    rotate_left
    · simp only [Act.put, List.setIfInBounds_toArray, List.set_cons_zero, List.set_cons_succ, i64_w, i32_w]
      rfl
    refine done_ (by kernel_rfl) ?_
    go_wp2_with fail
    obtain ⟨wz, hwz⟩ : ∃ wz, wz = (((((w9.setCell ⟨w4.heap.size, 0, none⟩ (.int .u8 0)).setCell ⟨w4.heap.size, 1, none⟩ (.int .u8 0)).setCell ⟨w4.heap.size, 2, none⟩ (.int .u16 0)).setCell ⟨w4.heap.size, 3, none⟩ (.int .u32 0)).setCell ⟨w4.heap.size, 4, none⟩ (.int .u32 0)).drew := ⟨_, rfl⟩
    have hg4 : w2.heap.size ≤ w4.heap.size := HB4.out.size
    have HBz := Lib.hid (show Below w2.heap.size w2 wz by rw [hwz]; exact (((((HB9.out.setCell hg4 _).setCell hg4 _).setCell hg4 _).setCell hg4 _).setCell hg4 _).drew)
    rw [← hwz]
    have HKz := Lib.hid (HU.out.at_ HBz.out)
    have HUz := Lib.hid (HU.out.next HBz.out)
    clear hwz p0 p1 p2 p3 p4 q0 q1 q2 q3 q4 hdl hev HX9 HB9
    by_cases hne : (xs.length : Int) = szF ty ln
    · go_wp2_with fail
      refine start_ (n := 13) (S := fun w' => w'.cell? ⟨w.heap.size, 0, none⟩ = some (.int .u8 ver) ∧ w'.cell? ⟨w.heap.size, 1, none⟩ = some (.int .u8 ty) ∧ w'.cell? ⟨w.heap.size, 2, none⟩ = some (.int .u16 fl) ∧ w'.cell? ⟨w.heap.size, 3, none⟩ = some (.int .u32 st) ∧ w'.cell? ⟨w.heap.size, 4, none⟩ = some (.int .u32 ln) ∧ w'.cell? ⟨w.heap.size, 5, none⟩ = some (.slice A xs.length c) ∧ Hid (Below wz.heap.size wz w')) (ds := []) #[false, false, false, false, false, false, false, false, false, false, false, false, false] (by kernel_rfl) rfl rfl (⟨HKz.out.bx.1, HKz.out.bx.2.1, HKz.out.bx.2.2.1, HKz.out.bx.2.2.2.1, HKz.out.bx.2.2.2.2.1, HKz.out.bx.2.2.2.2.2, Lib.hid (Below.refl _ _).drew⟩) (fun hHeld => ?_)
      refine pure_ (i := 0) (N := some 63) (v := ?_) (a' := ?_) #[true, false, false, false, false, false, false, false, false, false, false, false, false] rfl rfl (by kernel_rfl) (fun _ _ _ h => h) (Or.inl ⟨by rfl, ?_⟩) ?_ ?_
      rotate_left
      · intro w'
        go_simp
        with_reducible rfl
      rotate_left
      · simp only [Act.put, List.setIfInBounds_toArray, List.set_cons_zero, List.set_cons_succ, i64_w, i32_w]
        rfl
      refine pure_ (i := 3) (N := some 66) (v := ?_) (a' := ?_) #[true, false, false, true, false, false, false, false, false, false, false, false, false] rfl rfl (by kernel_rfl) (fun _ _ _ h => h) (Or.inl ⟨by rfl, ?_⟩) ?_ ?_
      rotate_left
      · intro w'
        go_simp
        with_reducible rfl
      rotate_left
      · simp only [Act.put, List.setIfInBounds_toArray, List.set_cons_zero, List.set_cons_succ, i64_w, i32_w]
        rfl
      refine take_ (i := 1) (N := some 64) (v := ?_) (a' := ?_) #[true, true, false, true, false, false, false, false, false, false, false, false, false] rfl rfl (by kernel_rfl) (fun _ _ _ h => h) (Or.inl ⟨by rfl, ?_⟩) hHeld ?_ ?_
      rotate_left
      · rintro w' ⟨s0, s1, s2, s3, s4, s5, s6⟩
        go_simp
        with_reducible rfl
      rotate_left
      · simp only [Act.put, List.setIfInBounds_toArray, List.set_cons_zero, List.set_cons_succ, i64_w, i32_w]
        rfl
      refine take_ (i := 4) (N := some 67) (v := ?_) (a' := ?_) #[true, true, false, true, true, false, false, false, false, false, false, false, false] rfl rfl (by kernel_rfl) (fun _ _ _ h => h) (Or.inl ⟨by rfl, ?_⟩) hHeld ?_ ?_
      rotate_left
      · rintro w' ⟨s0, s1, s2, s3, s4, s5, s6⟩
        go_simp
        with_reducible rfl
      rotate_left
      · simp only [Act.put, List.setIfInBounds_toArray, List.set_cons_zero, List.set_cons_succ, i64_w, i32_w]
        rfl
      refine one_ (i := 2) (N := some 65) #[true, true, true, true, true, false, false, false, false, false, false, false, false] rfl rfl (by kernel_rfl) (by decide) (fun K hK => ?_)
      refine value_ (w1 := ?_) (v := ?_) (by rfl) rfl ?_ ?_
      rotate_left 2
      · go_simp
        constructor
        · rfl
        · rfl
      have hoa : Own (wz.alloc (.cells #[] 5)).drew wz.heap.size (.slice (some ⟨wz.heap.size, 0, none⟩) 0 0) [] := own_new wz wz.heap.size [] (Nat.le_refl _) (by simp)
      have hba : Below wz.drew.heap.size wz.drew (wz.alloc (.cells #[] 5)).drew := below_da _ _
      generalize (wz.alloc (.cells #[] 5)).drew = wa at hoa hba ⊢
      have HOa := Lib.hid hoa
      have HBa := Lib.hid hba
      clear hoa hba
      refine hK.out _ _ (⟨keepA HBa.out hHeld.1, keepA HBa.out hHeld.2.1, keepA HBa.out hHeld.2.2.1, keepA HBa.out hHeld.2.2.2.1, keepA HBa.out hHeld.2.2.2.2.1, keepA HBa.out hHeld.2.2.2.2.2.1, Lib.hid (belowT hHeld.2.2.2.2.2.2.out HBa.out)⟩) (fun hHeld => ?_)
      clear hK K
      refine norm_ (a' := ?_) ?_ ?_
      rotate_left
      · show Act.put _ (some 65) _ = _
        simp only [Act.put, List.setIfInBounds_toArray, List.set_cons_zero, List.set_cons_succ, i64_w, i32_w]
        rfl
      refine one_ (i := 5) (N := some 68) #[true, true, true, true, true, true, false, false, false, false, false, false, false] rfl rfl (by kernel_rfl) (by decide) (fun K hK => ?_)
      rw [if_pos (by rfl)]
      refine wp_append_bs (.tmp 65) (.tmp 67) rfl wz.heap.size (.slice (some ⟨wz.heap.size, 0, none⟩) 0 0) [] rfl HOa.out A xs.length c xs rfl (HUz.out.at_ hHeld.2.2.2.2.2.2.out).bs (by simp; omega) hHeld.2.2.2.2.2.2.out.size ?_
      intro vb wb hob hgb _
      have HBb := Lib.hid (hHeld.2.2.2.2.2.2.out.grown hgb hHeld.2.2.2.2.2.2.out.size (fun k hk => (HOa.out.lt k hk).1))
      obtain ⟨Ab, cb, rfl, hqb⟩ := Own.bs (show Own wb wz.heap.size vb xs from hob) hxb.out
      have HQb := Lib.hid hqb
      clear hob hgb hqb
      refine hK.out _ _ (⟨keepA HBb.out HKz.out.bx.1, keepA HBb.out HKz.out.bx.2.1, keepA HBb.out HKz.out.bx.2.2.1, keepA HBb.out HKz.out.bx.2.2.2.1, keepA HBb.out HKz.out.bx.2.2.2.2.1, keepA HBb.out HKz.out.bx.2.2.2.2.2, HBb⟩) (fun hHeld => ?_)
      clear hK K
      refine norm_ (a' := ?_) ?_ ?_
      rotate_left
      · show Act.put _ (some 68) _ = _
        simp only [Act.put, List.setIfInBounds_toArray, List.set_cons_zero, List.set_cons_succ, i64_w, i32_w]
        rfl
      refine pure_ (i := 6) (N := some 69) (v := ?_) (a' := ?_) #[true, true, true, true, true, true, true, false, false, false, false, false, false] rfl rfl (by kernel_rfl) (fun _ _ _ h => h) (Or.inl ⟨by rfl, ?_⟩) ?_ ?_
      rotate_left
      · intro w'
        go_simp
        with_reducible rfl
      rotate_left
      · simp only [Act.put, List.setIfInBounds_toArray, List.set_cons_zero, List.set_cons_succ, i64_w, i32_w]
        rfl
      refine one_ (i := 7) (N := some 70) #[true, true, true, true, true, true, true, true, false, false, false, false, false] rfl rfl (by kernel_rfl) (by decide) (fun K hK => ?_)
      refine goes_ Tryd.func27 (by kernel_rfl) rfl #[frm ver ty fl st ln Ab xs.length cb] (by rfl) rfl rfl (by simp only [List.map_toArray, List.map_cons, List.map_nil]; rfl) ?_
      with_reducible refine (fbytes_yes ver ty fl st ln Ab xs.length cb xs _ HQb.out f0 f1 s0 s1 l0 l1 hne).mono ?_
      rintro e wc ⟨vc, rfl, hoc, hbc⟩
      refine ⟨_, rfl, ?_⟩
      have HBc := Lib.hid hbc
      obtain ⟨Ac, cc, rfl, hqc⟩ := Own.bs (show Own wc _ vc zs by rw [HZ.out]; exact hoc) HNx.out
      have HQc := Lib.hid hqc
      clear hbc hoc hqc
      refine hK.out _ _ (⟨keepA HBc.out hHeld.1, keepA HBc.out hHeld.2.1, keepA HBc.out hHeld.2.2.1, keepA HBc.out hHeld.2.2.2.1, keepA HBc.out hHeld.2.2.2.2.1, keepA HBc.out hHeld.2.2.2.2.2.1, Lib.hid (belowT hHeld.2.2.2.2.2.2.out HBc.out)⟩) (fun hHeld => ?_)
      clear hK K
      refine norm_ (a' := ?_) ?_ ?_
      rotate_left
      · show Act.put _ (some 70) _ = _
        simp only [Act.put, List.setIfInBounds_toArray, List.set_cons_zero, List.set_cons_succ, i64_w, i32_w]
        rfl
      refine pure_ (i := 8) (N := some 62) (v := ?_) (a' := ?_) #[true, true, true, true, true, true, true, true, true, false, false, false, false] rfl rfl (by kernel_rfl) (fun _ _ _ h => h) (Or.inl ⟨by rfl, ?_⟩) ?_ ?_
      rotate_left
      · intro w'
        go_simp
        with_reducible rfl
      rotate_left
      · simp only [Act.put, List.setIfInBounds_toArray, List.set_cons_zero, List.set_cons_succ, i64_w, i32_w]
        rfl
      refine pure_ (i := 9) (N := some 71) (v := ?_) (a' := ?_) #[true, true, true, true, true, true, true, true, true, true, false, false, false] rfl rfl (by kernel_rfl) (fun _ _ _ h => h) (Or.inl ⟨by rfl, ?_⟩) ?_ ?_
      rotate_left
      · intro w'
        go_simp
        with_reducible rfl
      rotate_left
      · simp only [Act.put, List.setIfInBounds_toArray, List.set_cons_zero, List.set_cons_succ, i64_w, i32_w]
        rfl
      refine pure_ (i := 10) (N := some 72) (v := ?_) (a' := ?_) #[true, true, true, true, true, true, true, true, true, true, true, false, false] rfl rfl (by kernel_rfl) (fun _ _ _ h => h) (Or.inl ⟨by rfl, ?_⟩) ?_ ?_
      rotate_left
      · intro w'
        go_simp
        with_reducible rfl
      rotate_left
      · simp only [Act.put, List.setIfInBounds_toArray, List.set_cons_zero, List.set_cons_succ, i64_w, i32_w]
        rfl
      refine pure_ (i := 11) (N := some 9) (v := ?_) (a' := ?_) #[true, true, true, true, true, true, true, true, true, true, true, true, false] rfl rfl (by kernel_rfl) (fun _ _ _ h => h) (Or.inl ⟨by rfl, ?_⟩) ?_ ?_
      rotate_left
      · intro w'
        go_simp
        with_reducible rfl
      rotate_left
      · simp only [Act.put, List.setIfInBounds_toArray, List.set_cons_zero, List.set_cons_succ, i64_w, i32_w]
        rfl
      refine pure_ (i := 12) (N := some 8) (v := ?_) (a' := ?_) #[true, true, true, true, true, true, true, true, true, true, true, true, true] rfl rfl (by kernel_rfl) (fun _ _ _ h => h) (Or.inl ⟨by rfl, ?_⟩) ?_ ?_
      rotate_left
      · intro w'
        go_simp
        with_reducible rfl
      rotate_left
      · simp only [Act.put, List.setIfInBounds_toArray, List.set_cons_zero, List.set_cons_succ, i64_w, i32_w]
        rfl
      refine done_ (by kernel_rfl) ?_
      have HBc2 := Lib.hid (belowT HBz.out hHeld.2.2.2.2.2.2.out)
      have HKc := Lib.hid (HU.out.at_ HBc2.out)
      have HUc := Lib.hid (HU.out.next HBc2.out)
      have hsd : ((xs.length : Int) == szF ty ln) = true := by simp [hne]
      clear hHeld HBc HBb HBa HOa HQb
      go_wp2_with fail
      refine start_ (n := 10) (S := fun w' => w'.cell? ⟨w.heap.size, 0, none⟩ = some (.int .u8 ver) ∧ w'.cell? ⟨w.heap.size, 1, none⟩ = some (.int .u8 ty) ∧ w'.cell? ⟨w.heap.size, 2, none⟩ = some (.int .u16 fl) ∧ w'.cell? ⟨w.heap.size, 3, none⟩ = some (.int .u32 st) ∧ w'.cell? ⟨w.heap.size, 4, none⟩ = some (.int .u32 ln) ∧ w'.cell? ⟨w.heap.size, 5, none⟩ = some (.slice A xs.length c) ∧ Hid (Below wc.heap.size wc w')) (ds := []) #[false, false, false, false, false, false, false, false, false, false] (by kernel_rfl) rfl rfl (⟨HKc.out.bx.1, HKc.out.bx.2.1, HKc.out.bx.2.2.1, HKc.out.bx.2.2.2.1, HKc.out.bx.2.2.2.2.1, HKc.out.bx.2.2.2.2.2, Lib.hid (Below.refl _ _).drew⟩) (fun hHeld => ?_)
      refine pure_ (i := 0) (N := some 73) (v := ?_) (a' := ?_) #[true, false, false, false, false, false, false, false, false, false] rfl rfl (by kernel_rfl) (fun _ _ _ h => h) (Or.inl ⟨by rfl, ?_⟩) ?_ ?_
      rotate_left
      · intro w'
        go_simp
        with_reducible rfl
      rotate_left
      · simp only [Act.put, List.setIfInBounds_toArray, List.set_cons_zero, List.set_cons_succ, i64_w, i32_w]
        rfl
      refine pure_ (i := 1) (N := some 74) (v := ?_) (a' := ?_) #[true, true, false, false, false, false, false, false, false, false] rfl rfl (by kernel_rfl) (fun _ _ _ h => h) (Or.inl ⟨by rfl, ?_⟩) ?_ ?_
      rotate_left
      · intro w'
        go_simp
        with_reducible rfl
      rotate_left
      · simp only [Act.put, List.setIfInBounds_toArray, List.set_cons_zero, List.set_cons_succ, i64_w, i32_w]
        rfl
      refine pure_ (i := 2) (N := some 75) (v := ?_) (a' := ?_) #[true, true, true, false, false, false, false, false, false, false] rfl rfl (by kernel_rfl) (fun _ _ _ h => h) (Or.inl ⟨by rfl, ?_⟩) ?_ ?_
      rotate_left
      · intro w'
        go_simp
        with_reducible rfl
      rotate_left
      · simp only [Act.put, List.setIfInBounds_toArray, List.set_cons_zero, List.set_cons_succ, i64_w, i32_w]
        rfl
      refine pure_ (i := 5) (N := some 78) (v := ?_) (a' := ?_) #[true, true, true, false, false, true, false, false, false, false] rfl rfl (by kernel_rfl) (fun _ _ _ h => h) (Or.inl ⟨by rfl, ?_⟩) ?_ ?_
      rotate_left
      · intro w'
        go_simp
        with_reducible rfl
      rotate_left
      · simp only [Act.put, List.setIfInBounds_toArray, List.set_cons_zero, List.set_cons_succ, i64_w, i32_w]
        rfl
      refine take_ (i := 3) (N := some 76) (v := ?_) (a' := ?_) #[true, true, true, true, false, true, false, false, false, false] rfl rfl (by kernel_rfl) (fun _ _ _ h => h) (Or.inl ⟨by rfl, ?_⟩) hHeld ?_ ?_
      rotate_left
      · rintro w' ⟨s0, s1, s2, s3, s4, s5, s6⟩
        go_simp
        with_reducible rfl
      rotate_left
      · simp only [Act.put, List.setIfInBounds_toArray, List.set_cons_zero, List.set_cons_succ, i64_w, i32_w]
        rfl
      refine pure_ (i := 4) (N := some 77) (v := ?_) (a' := ?_) #[true, true, true, true, true, true, false, false, false, false] rfl rfl (by kernel_rfl) (fun _ _ _ h => h) (Or.inl ⟨by rfl, ?_⟩) ?_ ?_
      rotate_left
      · intro w'
        go_simp
        with_reducible rfl
      rotate_left
      · simp only [Act.put, List.setIfInBounds_toArray, List.set_cons_zero, List.set_cons_succ, i64_w, i32_w]
        rfl
      refine take_ (i := 6) (N := some 79) (v := ?_) (a' := ?_) #[true, true, true, true, true, true, true, false, false, false] rfl rfl (by kernel_rfl) (fun _ _ _ h => h) (Or.inl ⟨by rfl, ?_⟩) hHeld ?_ ?_
      rotate_left
      · rintro w' ⟨s0, s1, s2, s3, s4, s5, s6⟩
        go_simp
        with_reducible rfl
      rotate_left
      · simp only [Act.put, List.setIfInBounds_toArray, List.set_cons_zero, List.set_cons_succ, i64_w, i32_w]
        rfl
      refine one_ (i := 7) (N := some 80) #[true, true, true, true, true, true, true, true, false, false] rfl rfl (by kernel_rfl) (by decide) (fun K hK => ?_)
      refine goes_ Tryd.func43 (by kernel_rfl) rfl #[hdr ver ty fl st ln] (by rfl) rfl rfl (by simp only [List.map_toArray, List.map_cons, List.map_nil]; rfl) ?_
      with_reducible refine (size_any ver ty fl st ln _ l0 l1).mono ?_
      rintro e wd ⟨rfl, hbd⟩
      refine ⟨_, rfl, ?_⟩
      have HBd := Lib.hid hbd
      clear hbd
      refine hK.out _ _ (⟨keepA HBd.out hHeld.1, keepA HBd.out hHeld.2.1, keepA HBd.out hHeld.2.2.1, keepA HBd.out hHeld.2.2.2.1, keepA HBd.out hHeld.2.2.2.2.1, keepA HBd.out hHeld.2.2.2.2.2.1, Lib.hid (belowT hHeld.2.2.2.2.2.2.out HBd.out)⟩) (fun hHeld => ?_)
      clear hK K
      refine norm_ (a' := ?_) ?_ ?_
      rotate_left
      · show Act.put _ (some 80) _ = _
        simp only [Act.put, List.setIfInBounds_toArray, List.set_cons_zero, List.set_cons_succ, i64_w, i32_w]
        rfl
      refine pure_ (i := 8) (N := some 81) (v := ?_) (a' := ?_) #[true, true, true, true, true, true, true, true, true, false] rfl rfl (by kernel_rfl) (fun _ _ _ h => h) (Or.inl ⟨by rfl, ?_⟩) ?_ ?_
      rotate_left
      · intro w'
        go_simp
        with_reducible rfl
      rotate_left
      · simp only [Act.put, List.setIfInBounds_toArray, List.set_cons_zero, List.set_cons_succ, i64_w, i32_w]
        rfl
      refine pure_ (i := 9) (N := some 82) (v := ?_) (a' := ?_) #[true, true, true, true, true, true, true, true, true, true] rfl rfl (by kernel_rfl) (fun _ _ _ h => h) (Or.inl ⟨by rfl, ?_⟩) ?_ ?_
      rotate_left
      · intro w'
        go_simp
        with_reducible rfl
      rotate_left
      · simp only [Act.put, List.setIfInBounds_toArray, List.set_cons_zero, List.set_cons_succ, i64_w, i32_w]
        rfl
      refine done_ (by kernel_rfl) ?_
      have HBd2 := Lib.hid (belowT HBc2.out hHeld.2.2.2.2.2.2.out)
      have HKd := Lib.hid (HU.out.at_ HBd2.out)
      have HUd := Lib.hid (HU.out.next HBd2.out)
      have HQd := Lib.hid (HQc.out.next hHeld.2.2.2.2.2.2.out)
      clear hHeld HBd hsd
      go_wp2_with fail
      refine start_ (n := 16) (S := fun w' => w'.cell? ⟨w.heap.size, 0, none⟩ = some (.int .u8 ver) ∧ w'.cell? ⟨w.heap.size, 1, none⟩ = some (.int .u8 ty) ∧ w'.cell? ⟨w.heap.size, 2, none⟩ = some (.int .u16 fl) ∧ w'.cell? ⟨w.heap.size, 3, none⟩ = some (.int .u32 st) ∧ w'.cell? ⟨w.heap.size, 4, none⟩ = some (.int .u32 ln) ∧ w'.cell? ⟨w.heap.size, 5, none⟩ = some (.slice A xs.length c) ∧ Hid (Below wd.heap.size wd w')) (ds := []) #[false, false, false, false, false, false, false, false, false, false, false, false, false, false, false, false] (by kernel_rfl) rfl rfl (⟨HKd.out.bx.1, HKd.out.bx.2.1, HKd.out.bx.2.2.1, HKd.out.bx.2.2.2.1, HKd.out.bx.2.2.2.2.1, HKd.out.bx.2.2.2.2.2, Lib.hid (Below.refl _ _).drew⟩) (fun hHeld => ?_)
      refine pure_ (i := 0) (N := some 83) (v := ?_) (a' := ?_) #[true, false, false, false, false, false, false, false, false, false, false, false, false, false, false, false] rfl rfl (by kernel_rfl) (fun _ _ _ h => h) (Or.inl ⟨by rfl, ?_⟩) ?_ ?_
      rotate_left
      · intro w'
        go_simp
        with_reducible rfl
      rotate_left
      · simp only [Act.put, List.setIfInBounds_toArray, List.set_cons_zero, List.set_cons_succ, i64_w, i32_w]
        rfl
      refine pure_ (i := 1) (N := some 84) (v := ?_) (a' := ?_) #[true, true, false, false, false, false, false, false, false, false, false, false, false, false, false, false] rfl rfl (by kernel_rfl) (fun _ _ _ h => h) (Or.inl ⟨by rfl, ?_⟩) ?_ ?_
      rotate_left
      · intro w'
        go_simp
        with_reducible rfl
      rotate_left
      · simp only [Act.put, List.setIfInBounds_toArray, List.set_cons_zero, List.set_cons_succ, i64_w, i32_w]
        rfl
      refine pure_ (i := 2) (N := some 85) (v := ?_) (a' := ?_) #[true, true, true, false, false, false, false, false, false, false, false, false, false, false, false, false] rfl rfl (by kernel_rfl) (fun _ _ _ h => h) (Or.inl ⟨by rfl, ?_⟩) ?_ ?_
      rotate_left
      · intro w'
        go_simp
        with_reducible rfl
      rotate_left
      · simp only [Act.put, List.setIfInBounds_toArray, List.set_cons_zero, List.set_cons_succ, i64_w, i32_w]
        rfl
      refine pure_ (i := 3) (N := some 86) (v := ?_) (a' := ?_) #[true, true, true, true, false, false, false, false, false, false, false, false, false, false, false, false] rfl rfl (by kernel_rfl) (fun _ _ _ h => h) (Or.inl ⟨by rfl, ?_⟩) ?_ ?_
      rotate_left
      · intro w'
        go_simp
        with_reducible rfl
      rotate_left
      · simp only [Act.put, List.setIfInBounds_toArray, List.set_cons_zero, List.set_cons_succ, i64_w, i32_w]
        rfl
      refine pure_ (i := 5) (N := some 88) (v := ?_) (a' := ?_) #[true, true, true, true, false, true, false, false, false, false, false, false, false, false, false, false] rfl rfl (by kernel_rfl) (fun _ _ _ h => h) (Or.inl ⟨by rfl, ?_⟩) ?_ ?_
      rotate_left
      · intro w'
        go_simp
        with_reducible rfl
      rotate_left
      · simp only [Act.put, List.setIfInBounds_toArray, List.set_cons_zero, List.set_cons_succ, i64_w, i32_w]
        rfl
      refine pure_ (i := 9) (N := some 92) (v := ?_) (a' := ?_) #[true, true, true, true, false, true, false, false, false, true, false, false, false, false, false, false] rfl rfl (by kernel_rfl) (fun _ _ _ h => h) (Or.inl ⟨by rfl, ?_⟩) ?_ ?_
      rotate_left
      · intro w'
        go_simp
        with_reducible rfl
      rotate_left
      · simp only [Act.put, List.setIfInBounds_toArray, List.set_cons_zero, List.set_cons_succ, i64_w, i32_w]
        rfl
      refine take_ (i := 4) (N := some 87) (v := ?_) (a' := ?_) #[true, true, true, true, true, true, false, false, false, true, false, false, false, false, false, false] rfl rfl (by kernel_rfl) (fun _ _ _ h => h) (Or.inl ⟨by rfl, ?_⟩) hHeld ?_ ?_
      rotate_left
      · rintro w' ⟨s0, s1, s2, s3, s4, s5, s6⟩
        refine (conv_run (by rfl) (by rfl) (HQd.out.next s6.out)).trans ?_
        with_reducible rfl
      rotate_left
      · simp only [Act.put, List.setIfInBounds_toArray, List.set_cons_zero, List.set_cons_succ, i64_w, i32_w]
        rfl
      refine take_ (i := 6) (N := some 89) (v := ?_) (a' := ?_) #[true, true, true, true, true, true, true, false, false, true, false, false, false, false, false, false] rfl rfl (by kernel_rfl) (fun _ _ _ h => h) (Or.inl ⟨by rfl, ?_⟩) hHeld ?_ ?_
      rotate_left
      · rintro w' ⟨s0, s1, s2, s3, s4, s5, s6⟩
        go_simp
        with_reducible rfl
      rotate_left
      · simp only [Act.put, List.setIfInBounds_toArray, List.set_cons_zero, List.set_cons_succ, i64_w, i32_w]
        rfl
      refine take_ (i := 10) (N := some 93) (v := ?_) (a' := ?_) #[true, true, true, true, true, true, true, false, false, true, true, false, false, false, false, false] rfl rfl (by kernel_rfl) (fun _ _ _ h => h) (Or.inl ⟨by rfl, ?_⟩) hHeld ?_ ?_
      rotate_left
      · rintro w' ⟨s0, s1, s2, s3, s4, s5, s6⟩
        go_simp
        with_reducible rfl
      rotate_left
      · simp only [Act.put, List.setIfInBounds_toArray, List.set_cons_zero, List.set_cons_succ, i64_w, i32_w]
        rfl
      refine take_ (i := 11) (N := some 94) (v := ?_) (a' := ?_) #[true, true, true, true, true, true, true, false, false, true, true, true, false, false, false, false] rfl rfl (by kernel_rfl) (fun _ _ _ h => h) (Or.inl ⟨by rfl, ?_⟩) hHeld ?_ ?_
      rotate_left
      · rintro w' ⟨s0, s1, s2, s3, s4, s5, s6⟩
        refine (conv_run (by rfl) (by rfl) (HUd.out.at_ s6.out).bs).trans ?_
        with_reducible rfl
      rotate_left
      · simp only [Act.put, List.setIfInBounds_toArray, List.set_cons_zero, List.set_cons_succ, i64_w, i32_w]
        rfl
      refine one_ (i := 7) (N := some 90) #[true, true, true, true, true, true, true, true, false, true, true, true, false, false, false, false] rfl rfl (by kernel_rfl) (by decide) (fun K hK => ?_)
      refine goes_ Tryd.func28 (by kernel_rfl) rfl #[hdr ver ty fl st ln] (by rfl) rfl rfl (by simp only [List.map_toArray, List.map_cons, List.map_nil]; rfl) ?_
      with_reducible refine (encode_any ver ty fl st ln _ f0 f1 s0 s1 l0 l1).mono ?_
      rintro e we ⟨ge, rfl, hoe, hbe⟩
      refine ⟨_, rfl, ?_⟩
      have HQe := Lib.hid (own_bs12 hoe HN.out rfl)
      have HBe := Lib.hid hbe
      clear hoe hbe
      refine hK.out _ _ (⟨keepA HBe.out hHeld.1, keepA HBe.out hHeld.2.1, keepA HBe.out hHeld.2.2.1, keepA HBe.out hHeld.2.2.2.1, keepA HBe.out hHeld.2.2.2.2.1, keepA HBe.out hHeld.2.2.2.2.2.1, Lib.hid (belowT hHeld.2.2.2.2.2.2.out HBe.out)⟩) (fun hHeld => ?_)
      clear hK K
      refine norm_ (a' := ?_) ?_ ?_
      rotate_left
      · show Act.put _ (some 90) _ = _
        simp only [Act.put, List.setIfInBounds_toArray, List.set_cons_zero, List.set_cons_succ, i64_w, i32_w]
        rfl
      refine one_ (i := 8) (N := some 91) #[true, true, true, true, true, true, true, true, true, true, true, true, false, false, false, false] rfl rfl (by kernel_rfl) (by decide) (fun K hK => ?_)
      refine value_ (by rfl) rfl (conv_run (by rfl) (by rfl) HQe.out) ?_
      refine hK.out _ _ (hHeld) (fun hHeld => ?_)
      clear hK K
      refine norm_ (a' := ?_) ?_ ?_
      rotate_left
      · show Act.put _ (some 91) _ = _
        simp only [Act.put, List.setIfInBounds_toArray, List.set_cons_zero, List.set_cons_succ, i64_w, i32_w]
        rfl
      refine pure_ (i := 12) (N := some 95) (v := ?_) (a' := ?_) #[true, true, true, true, true, true, true, true, true, true, true, true, true, false, false, false] rfl rfl (by kernel_rfl) (fun _ _ _ h => h) (Or.inl ⟨by rfl, ?_⟩) ?_ ?_
      rotate_left
      · intro w'
        refine (add_run (by rfl) (by rfl) (by rfl) (by rw [strOfNums_size, strOfNums_size]; exact HLs.out)).trans ?_
        with_reducible rfl
      rotate_left
      · simp only [Act.put, List.setIfInBounds_toArray, List.set_cons_zero, List.set_cons_succ, i64_w, i32_w]
        rfl
      refine pure_ (i := 13) (N := some 96) (v := ?_) (a' := ?_) #[true, true, true, true, true, true, true, true, true, true, true, true, true, true, false, false] rfl rfl (by kernel_rfl) (fun _ _ _ h => h) (Or.inl ⟨by rfl, ?_⟩) ?_ ?_
      rotate_left
      · intro w'
        go_simp
        with_reducible rfl
      rotate_left
      · simp only [Act.put, List.setIfInBounds_toArray, List.set_cons_zero, List.set_cons_succ, i64_w, i32_w]
        rfl
      refine pure_ (i := 14) (N := some 97) (v := ?_) (a' := ?_) #[true, true, true, true, true, true, true, true, true, true, true, true, true, true, true, false] rfl rfl (by kernel_rfl) (fun _ _ _ h => h) (Or.inl ⟨by rfl, ?_⟩) ?_ ?_
      rotate_left
      · intro w'
        go_simp
        with_reducible rfl
      rotate_left
      · simp only [Act.put, List.setIfInBounds_toArray, List.set_cons_zero, List.set_cons_succ, i64_w, i32_w]
        rfl
      refine pure_ (i := 15) (N := some 6) (v := ?_) (a' := ?_) #[true, true, true, true, true, true, true, true, true, true, true, true, true, true, true, true] rfl rfl (by kernel_rfl) (fun _ _ _ h => h) (Or.inl ⟨by rfl, ?_⟩) ?_ ?_
      rotate_left
      · intro w'
        go_simp
        with_reducible rfl
      rotate_left
      · simp only [Act.put, List.setIfInBounds_toArray, List.set_cons_zero, List.set_cons_succ, i64_w, i32_w]
        rfl
      refine done_ (by kernel_rfl) ?_
      have HBe2 := Lib.hid (belowT HBd2.out hHeld.2.2.2.2.2.2.out)
      clear hHeld
      go_wp2_with fail
      go_ret
      refine ⟨ret_bool ?_, HB2.out.trans (HBe2.out.mono HB2.out.size)⟩
      rw [HZ.out, str_app]
      simp
    · go_wp2_with fail
      refine start_ (n := 13) (S := fun w' => w'.cell? ⟨w.heap.size, 0, none⟩ = some (.int .u8 ver) ∧ w'.cell? ⟨w.heap.size, 1, none⟩ = some (.int .u8 ty) ∧ w'.cell? ⟨w.heap.size, 2, none⟩ = some (.int .u16 fl) ∧ w'.cell? ⟨w.heap.size, 3, none⟩ = some (.int .u32 st) ∧ w'.cell? ⟨w.heap.size, 4, none⟩ = some (.int .u32 ln) ∧ w'.cell? ⟨w.heap.size, 5, none⟩ = some (.slice A xs.length c) ∧ Hid (Below wz.heap.size wz w')) (ds := []) #[false, false, false, false, false, false, false, false, false, false, false, false, false] (by kernel_rfl) rfl rfl (⟨HKz.out.bx.1, HKz.out.bx.2.1, HKz.out.bx.2.2.1, HKz.out.bx.2.2.2.1, HKz.out.bx.2.2.2.2.1, HKz.out.bx.2.2.2.2.2, Lib.hid (Below.refl _ _).drew⟩) (fun hHeld => ?_)
      refine pure_ (i := 0) (N := some 63) (v := ?_) (a' := ?_) #[true, false, false, false, false, false, false, false, false, false, false, false, false] rfl rfl (by kernel_rfl) (fun _ _ _ h => h) (Or.inl ⟨by rfl, ?_⟩) ?_ ?_
      rotate_left
      · intro w'
        go_simp
        with_reducible rfl
      rotate_left
      · simp only [Act.put, List.setIfInBounds_toArray, List.set_cons_zero, List.set_cons_succ, i64_w, i32_w]
        rfl
      refine pure_ (i := 3) (N := some 66) (v := ?_) (a' := ?_) #[true, false, false, true, false, false, false, false, false, false, false, false, false] rfl rfl (by kernel_rfl) (fun _ _ _ h => h) (Or.inl ⟨by rfl, ?_⟩) ?_ ?_
      rotate_left
      · intro w'
        go_simp
        with_reducible rfl
      rotate_left
      · simp only [Act.put, List.setIfInBounds_toArray, List.set_cons_zero, List.set_cons_succ, i64_w, i32_w]
        rfl
      refine take_ (i := 1) (N := some 64) (v := ?_) (a' := ?_) #[true, true, false, true, false, false, false, false, false, false, false, false, false] rfl rfl (by kernel_rfl) (fun _ _ _ h => h) (Or.inl ⟨by rfl, ?_⟩) hHeld ?_ ?_
      rotate_left
      · rintro w' ⟨s0, s1, s2, s3, s4, s5, s6⟩
        go_simp
        with_reducible rfl
      rotate_left
      · simp only [Act.put, List.setIfInBounds_toArray, List.set_cons_zero, List.set_cons_succ, i64_w, i32_w]
        rfl
      refine take_ (i := 4) (N := some 67) (v := ?_) (a' := ?_) #[true, true, false, true, true, false, false, false, false, false, false, false, false] rfl rfl (by kernel_rfl) (fun _ _ _ h => h) (Or.inl ⟨by rfl, ?_⟩) hHeld ?_ ?_
      rotate_left
      · rintro w' ⟨s0, s1, s2, s3, s4, s5, s6⟩
        go_simp
        with_reducible rfl
      rotate_left
      · simp only [Act.put, List.setIfInBounds_toArray, List.set_cons_zero, List.set_cons_succ, i64_w, i32_w]
        rfl
      refine one_ (i := 2) (N := some 65) #[true, true, true, true, true, false, false, false, false, false, false, false, false] rfl rfl (by kernel_rfl) (by decide) (fun K hK => ?_)
      refine value_ (w1 := ?_) (v := ?_) (by rfl) rfl ?_ ?_
      rotate_left 2
      · go_simp
        constructor
        · rfl
        · rfl
      have hoa : Own (wz.alloc (.cells #[] 5)).drew wz.heap.size (.slice (some ⟨wz.heap.size, 0, none⟩) 0 0) [] := own_new wz wz.heap.size [] (Nat.le_refl _) (by simp)
      have hba : Below wz.drew.heap.size wz.drew (wz.alloc (.cells #[] 5)).drew := below_da _ _
      generalize (wz.alloc (.cells #[] 5)).drew = wa at hoa hba ⊢
      have HOa := Lib.hid hoa
      have HBa := Lib.hid hba
      clear hoa hba
      refine hK.out _ _ (⟨keepA HBa.out hHeld.1, keepA HBa.out hHeld.2.1, keepA HBa.out hHeld.2.2.1, keepA HBa.out hHeld.2.2.2.1, keepA HBa.out hHeld.2.2.2.2.1, keepA HBa.out hHeld.2.2.2.2.2.1, Lib.hid (belowT hHeld.2.2.2.2.2.2.out HBa.out)⟩) (fun hHeld => ?_)
      clear hK K
      refine norm_ (a' := ?_) ?_ ?_
      rotate_left
      · show Act.put _ (some 65) _ = _
        simp only [Act.put, List.setIfInBounds_toArray, List.set_cons_zero, List.set_cons_succ, i64_w, i32_w]
        rfl
      refine one_ (i := 5) (N := some 68) #[true, true, true, true, true, true, false, false, false, false, false, false, false] rfl rfl (by kernel_rfl) (by decide) (fun K hK => ?_)
      rw [if_pos (by rfl)]
      refine wp_append_bs (.tmp 65) (.tmp 67) rfl wz.heap.size (.slice (some ⟨wz.heap.size, 0, none⟩) 0 0) [] rfl HOa.out A xs.length c xs rfl (HUz.out.at_ hHeld.2.2.2.2.2.2.out).bs (by simp; omega) hHeld.2.2.2.2.2.2.out.size ?_
      intro vb wb hob hgb _
      have HBb := Lib.hid (hHeld.2.2.2.2.2.2.out.grown hgb hHeld.2.2.2.2.2.2.out.size (fun k hk => (HOa.out.lt k hk).1))
      obtain ⟨Ab, cb, rfl, hqb⟩ := Own.bs (show Own wb wz.heap.size vb xs from hob) hxb.out
      have HQb := Lib.hid hqb
      clear hob hgb hqb
      refine hK.out _ _ (⟨keepA HBb.out HKz.out.bx.1, keepA HBb.out HKz.out.bx.2.1, keepA HBb.out HKz.out.bx.2.2.1, keepA HBb.out HKz.out.bx.2.2.2.1, keepA HBb.out HKz.out.bx.2.2.2.2.1, keepA HBb.out HKz.out.bx.2.2.2.2.2, HBb⟩) (fun hHeld => ?_)
      clear hK K
      refine norm_ (a' := ?_) ?_ ?_
      rotate_left
      · show Act.put _ (some 68) _ = _
        simp only [Act.put, List.setIfInBounds_toArray, List.set_cons_zero, List.set_cons_succ, i64_w, i32_w]
        rfl
      refine pure_ (i := 6) (N := some 69) (v := ?_) (a' := ?_) #[true, true, true, true, true, true, true, false, false, false, false, false, false] rfl rfl (by kernel_rfl) (fun _ _ _ h => h) (Or.inl ⟨by rfl, ?_⟩) ?_ ?_
      rotate_left
      · intro w'
        go_simp
        with_reducible rfl
      rotate_left
      · simp only [Act.put, List.setIfInBounds_toArray, List.set_cons_zero, List.set_cons_succ, i64_w, i32_w]
        rfl
      refine one_ (i := 7) (N := some 70) #[true, true, true, true, true, true, true, true, false, false, false, false, false] rfl rfl (by kernel_rfl) (by decide) (fun K hK => ?_)
      refine goes_ Tryd.func27 (by kernel_rfl) rfl #[frm ver ty fl st ln Ab xs.length cb] (by rfl) rfl rfl (by simp only [List.map_toArray, List.map_cons, List.map_nil]; rfl) ?_
      with_reducible refine (fbytes_no ver ty fl st ln Ab xs.length cb xs _ (HUz.out.at_ HBb.out).good HQb.out f0 f1 s0 s1 l0 l1 hne).mono ?_
      rintro e wc ⟨rfl, hbc⟩
      refine ⟨_, rfl, ?_⟩
      have HBc := Lib.hid hbc
      clear hbc
      refine hK.out _ _ (⟨keepA HBc.out hHeld.1, keepA HBc.out hHeld.2.1, keepA HBc.out hHeld.2.2.1, keepA HBc.out hHeld.2.2.2.1, keepA HBc.out hHeld.2.2.2.2.1, keepA HBc.out hHeld.2.2.2.2.2.1, Lib.hid (belowT hHeld.2.2.2.2.2.2.out HBc.out)⟩) (fun hHeld => ?_)
      clear hK K
      refine norm_ (a' := ?_) ?_ ?_
      rotate_left
      · show Act.put _ (some 70) _ = _
        simp only [Act.put, List.setIfInBounds_toArray, List.set_cons_zero, List.set_cons_succ, i64_w, i32_w]
        rfl
      refine pure_ (i := 8) (N := some 62) (v := ?_) (a' := ?_) #[true, true, true, true, true, true, true, true, true, false, false, false, false] rfl rfl (by kernel_rfl) (fun _ _ _ h => h) (Or.inl ⟨by rfl, ?_⟩) ?_ ?_
      rotate_left
      · intro w'
        go_simp
        with_reducible rfl
      rotate_left
      · simp only [Act.put, List.setIfInBounds_toArray, List.set_cons_zero, List.set_cons_succ, i64_w, i32_w]
        rfl
      refine pure_ (i := 9) (N := some 71) (v := ?_) (a' := ?_) #[true, true, true, true, true, true, true, true, true, true, false, false, false] rfl rfl (by kernel_rfl) (fun _ _ _ h => h) (Or.inl ⟨by rfl, ?_⟩) ?_ ?_
      rotate_left
      · intro w'
        go_simp
        with_reducible rfl
      rotate_left
      · simp only [Act.put, List.setIfInBounds_toArray, List.set_cons_zero, List.set_cons_succ, i64_w, i32_w]
        rfl
      refine pure_ (i := 10) (N := some 72) (v := ?_) (a' := ?_) #[true, true, true, true, true, true, true, true, true, true, true, false, false] rfl rfl (by kernel_rfl) (fun _ _ _ h => h) (Or.inl ⟨by rfl, ?_⟩) ?_ ?_
      rotate_left
      · intro w'
        go_simp
        with_reducible rfl
      rotate_left
      · simp only [Act.put, List.setIfInBounds_toArray, List.set_cons_zero, List.set_cons_succ, i64_w, i32_w]
        rfl
      refine pure_ (i := 11) (N := some 9) (v := ?_) (a' := ?_) #[true, true, true, true, true, true, true, true, true, true, true, true, false] rfl rfl (by kernel_rfl) (fun _ _ _ h => h) (Or.inl ⟨by rfl, ?_⟩) ?_ ?_
      rotate_left
      · intro w'
        go_simp
        with_reducible rfl
      rotate_left
      · simp only [Act.put, List.setIfInBounds_toArray, List.set_cons_zero, List.set_cons_succ, i64_w, i32_w]
        rfl
      refine pure_ (i := 12) (N := some 8) (v := ?_) (a' := ?_) #[true, true, true, true, true, true, true, true, true, true, true, true, true] rfl rfl (by kernel_rfl) (fun _ _ _ h => h) (Or.inl ⟨by rfl, ?_⟩) ?_ ?_
      rotate_left
      · intro w'
        go_simp
        with_reducible rfl
      rotate_left
      · simp only [Act.put, List.setIfInBounds_toArray, List.set_cons_zero, List.set_cons_succ, i64_w, i32_w]
        rfl
      refine done_ (by kernel_rfl) ?_
      have HBc2 := Lib.hid (belowT HBz.out hHeld.2.2.2.2.2.2.out)
      have HKc := Lib.hid (HU.out.at_ HBc2.out)
      have HUc := Lib.hid (HU.out.next HBc2.out)
      have hsd : ((xs.length : Int) == szF ty ln) = false := by simp [hne]
      clear hHeld HBc HBb HBa HOa HQb
      go_wp2_with fail
      refine start_ (n := 10) (S := fun w' => w'.cell? ⟨w.heap.size, 0, none⟩ = some (.int .u8 ver) ∧ w'.cell? ⟨w.heap.size, 1, none⟩ = some (.int .u8 ty) ∧ w'.cell? ⟨w.heap.size, 2, none⟩ = some (.int .u16 fl) ∧ w'.cell? ⟨w.heap.size, 3, none⟩ = some (.int .u32 st) ∧ w'.cell? ⟨w.heap.size, 4, none⟩ = some (.int .u32 ln) ∧ w'.cell? ⟨w.heap.size, 5, none⟩ = some (.slice A xs.length c) ∧ Hid (Below wc.heap.size wc w')) (ds := []) #[false, false, false, false, false, false, false, false, false, false] (by kernel_rfl) rfl rfl (⟨HKc.out.bx.1, HKc.out.bx.2.1, HKc.out.bx.2.2.1, HKc.out.bx.2.2.2.1, HKc.out.bx.2.2.2.2.1, HKc.out.bx.2.2.2.2.2, Lib.hid (Below.refl _ _).drew⟩) (fun hHeld => ?_)
      refine pure_ (i := 0) (N := some 73) (v := ?_) (a' := ?_) #[true, false, false, false, false, false, false, false, false, false] rfl rfl (by kernel_rfl) (fun _ _ _ h => h) (Or.inl ⟨by rfl, ?_⟩) ?_ ?_
      rotate_left
      · intro w'
        go_simp
        with_reducible rfl
      rotate_left
      · simp only [Act.put, List.setIfInBounds_toArray, List.set_cons_zero, List.set_cons_succ, i64_w, i32_w]
        rfl
      refine pure_ (i := 1) (N := some 74) (v := ?_) (a' := ?_) #[true, true, false, false, false, false, false, false, false, false] rfl rfl (by kernel_rfl) (fun _ _ _ h => h) (Or.inl ⟨by rfl, ?_⟩) ?_ ?_
      rotate_left
      · intro w'
        go_simp
        with_reducible rfl
      rotate_left
      · simp only [Act.put, List.setIfInBounds_toArray, List.set_cons_zero, List.set_cons_succ, i64_w, i32_w]
        rfl
      refine pure_ (i := 2) (N := some 75) (v := ?_) (a' := ?_) #[true, true, true, false, false, false, false, false, false, false] rfl rfl (by kernel_rfl) (fun _ _ _ h => h) (Or.inl ⟨by rfl, ?_⟩) ?_ ?_
      rotate_left
      · intro w'
        go_simp
        with_reducible rfl
      rotate_left
      · simp only [Act.put, List.setIfInBounds_toArray, List.set_cons_zero, List.set_cons_succ, i64_w, i32_w]
        rfl
      refine pure_ (i := 5) (N := some 78) (v := ?_) (a' := ?_) #[true, true, true, false, false, true, false, false, false, false] rfl rfl (by kernel_rfl) (fun _ _ _ h => h) (Or.inl ⟨by rfl, ?_⟩) ?_ ?_
      rotate_left
      · intro w'
        go_simp
        with_reducible rfl
      rotate_left
      · simp only [Act.put, List.setIfInBounds_toArray, List.set_cons_zero, List.set_cons_succ, i64_w, i32_w]
        rfl
      refine take_ (i := 3) (N := some 76) (v := ?_) (a' := ?_) #[true, true, true, true, false, true, false, false, false, false] rfl rfl (by kernel_rfl) (fun _ _ _ h => h) (Or.inl ⟨by rfl, ?_⟩) hHeld ?_ ?_
      rotate_left
      · rintro w' ⟨s0, s1, s2, s3, s4, s5, s6⟩
        go_simp
        with_reducible rfl
      rotate_left
      · simp only [Act.put, List.setIfInBounds_toArray, List.set_cons_zero, List.set_cons_succ, i64_w, i32_w]
        rfl
      refine pure_ (i := 4) (N := some 77) (v := ?_) (a' := ?_) #[true, true, true, true, true, true, false, false, false, false] rfl rfl (by kernel_rfl) (fun _ _ _ h => h) (Or.inl ⟨by rfl, ?_⟩) ?_ ?_
      rotate_left
      · intro w'
        go_simp
        with_reducible rfl
      rotate_left
      · simp only [Act.put, List.setIfInBounds_toArray, List.set_cons_zero, List.set_cons_succ, i64_w, i32_w]
        rfl
      refine take_ (i := 6) (N := some 79) (v := ?_) (a' := ?_) #[true, true, true, true, true, true, true, false, false, false] rfl rfl (by kernel_rfl) (fun _ _ _ h => h) (Or.inl ⟨by rfl, ?_⟩) hHeld ?_ ?_
      rotate_left
      · rintro w' ⟨s0, s1, s2, s3, s4, s5, s6⟩
        go_simp
        with_reducible rfl
      rotate_left
      · simp only [Act.put, List.setIfInBounds_toArray, List.set_cons_zero, List.set_cons_succ, i64_w, i32_w]
        rfl
      refine one_ (i := 7) (N := some 80) #[true, true, true, true, true, true, true, true, false, false] rfl rfl (by kernel_rfl) (by decide) (fun K hK => ?_)
      refine goes_ Tryd.func43 (by kernel_rfl) rfl #[hdr ver ty fl st ln] (by rfl) rfl rfl (by simp only [List.map_toArray, List.map_cons, List.map_nil]; rfl) ?_
      with_reducible refine (size_any ver ty fl st ln _ l0 l1).mono ?_
      rintro e wd ⟨rfl, hbd⟩
      refine ⟨_, rfl, ?_⟩
      have HBd := Lib.hid hbd
      clear hbd
      refine hK.out _ _ (⟨keepA HBd.out hHeld.1, keepA HBd.out hHeld.2.1, keepA HBd.out hHeld.2.2.1, keepA HBd.out hHeld.2.2.2.1, keepA HBd.out hHeld.2.2.2.2.1, keepA HBd.out hHeld.2.2.2.2.2.1, Lib.hid (belowT hHeld.2.2.2.2.2.2.out HBd.out)⟩) (fun hHeld => ?_)
      clear hK K
      refine norm_ (a' := ?_) ?_ ?_
      rotate_left
      · show Act.put _ (some 80) _ = _
        simp only [Act.put, List.setIfInBounds_toArray, List.set_cons_zero, List.set_cons_succ, i64_w, i32_w]
        rfl
      refine pure_ (i := 8) (N := some 81) (v := ?_) (a' := ?_) #[true, true, true, true, true, true, true, true, true, false] rfl rfl (by kernel_rfl) (fun _ _ _ h => h) (Or.inl ⟨by rfl, ?_⟩) ?_ ?_
      rotate_left
      · intro w'
        go_simp
        with_reducible rfl
      rotate_left
      · simp only [Act.put, List.setIfInBounds_toArray, List.set_cons_zero, List.set_cons_succ, i64_w, i32_w]
        rfl
      refine pure_ (i := 9) (N := some 82) (v := ?_) (a' := ?_) #[true, true, true, true, true, true, true, true, true, true] rfl rfl (by kernel_rfl) (fun _ _ _ h => h) (Or.inl ⟨by rfl, ?_⟩) ?_ ?_
      rotate_left
      · intro w'
        go_simp
        with_reducible rfl
      rotate_left
      · simp only [Act.put, List.setIfInBounds_toArray, List.set_cons_zero, List.set_cons_succ, i64_w, i32_w]
        rfl
      refine done_ (by kernel_rfl) ?_
      have HBd2 := Lib.hid (belowT HBc2.out hHeld.2.2.2.2.2.2.out)
      have HKd := Lib.hid (HU.out.at_ HBd2.out)
      have HUd := Lib.hid (HU.out.next HBd2.out)
      clear hHeld HBd hsd
      go_wp2_with fail
      refine start_ (n := 16) (S := fun w' => Hid (Below wd.heap.size wd w')) (ds := []) #[false, false, false, false, false, false, false, false, false, false, false, false, false, false, false, false] (by kernel_rfl) rfl rfl ((Lib.hid (Below.refl _ _).drew)) (fun hHeld => ?_)
      refine pure_ (i := 0) (N := some 83) (v := ?_) (a' := ?_) #[true, false, false, false, false, false, false, false, false, false, false, false, false, false, false, false] rfl rfl (by kernel_rfl) (fun _ _ _ h => h) (Or.inl ⟨by rfl, ?_⟩) ?_ ?_
      rotate_left
      · intro w'
        go_simp
        with_reducible rfl
      rotate_left
      · simp only [Act.put, List.setIfInBounds_toArray, List.set_cons_zero, List.set_cons_succ, i64_w, i32_w]
        rfl
      refine pure_ (i := 1) (N := some 84) (v := ?_) (a' := ?_) #[true, true, false, false, false, false, false, false, false, false, false, false, false, false, false, false] rfl rfl (by kernel_rfl) (fun _ _ _ h => h) (Or.inl ⟨by rfl, ?_⟩) ?_ ?_
      rotate_left
      · intro w'
        go_simp
        with_reducible rfl
      rotate_left
      · simp only [Act.put, List.setIfInBounds_toArray, List.set_cons_zero, List.set_cons_succ, i64_w, i32_w]
        rfl
      refine pure_ (i := 2) (N := some 85) (v := ?_) (a' := ?_) #[true, true, true, false, false, false, false, false, false, false, false, false, false, false, false, false] rfl rfl (by kernel_rfl) (fun _ _ _ h => h) (Or.inl ⟨by rfl, ?_⟩) ?_ ?_
      rotate_left
      · intro w'
        go_simp
        with_reducible rfl
      rotate_left
      · simp only [Act.put, List.setIfInBounds_toArray, List.set_cons_zero, List.set_cons_succ, i64_w, i32_w]
        rfl
      refine pure_ (i := 3) (N := some 86) (v := undef) (a' := ?_) #[true, true, true, true, false, false, false, false, false, false, false, false, false, false, false, false] rfl rfl (by kernel_rfl) (fun _ _ _ h => h) (Or.inr ⟨by rfl, rfl⟩) ?_ ?_
      rotate_left
      · simp only [Act.put, List.setIfInBounds_toArray, List.set_cons_zero, List.set_cons_succ, i64_w, i32_w]
        rfl
      refine pure_ (i := 4) (N := some 87) (v := undef) (a' := ?_) #[true, true, true, true, true, false, false, false, false, false, false, false, false, false, false, false] rfl rfl (by kernel_rfl) (fun _ _ _ h => h) (Or.inr ⟨by rfl, rfl⟩) ?_ ?_
      rotate_left
      · simp only [Act.put, List.setIfInBounds_toArray, List.set_cons_zero, List.set_cons_succ, i64_w, i32_w]
        rfl
      refine pure_ (i := 5) (N := some 88) (v := undef) (a' := ?_) #[true, true, true, true, true, true, false, false, false, false, false, false, false, false, false, false] rfl rfl (by kernel_rfl) (fun _ _ _ h => h) (Or.inr ⟨by rfl, rfl⟩) ?_ ?_
      rotate_left
      · simp only [Act.put, List.setIfInBounds_toArray, List.set_cons_zero, List.set_cons_succ, i64_w, i32_w]
        rfl
      refine pure_ (i := 6) (N := some 89) (v := undef) (a' := ?_) #[true, true, true, true, true, true, true, false, false, false, false, false, false, false, false, false] rfl rfl (by kernel_rfl) (fun _ _ _ h => h) (Or.inr ⟨by rfl, rfl⟩) ?_ ?_
      rotate_left
      · simp only [Act.put, List.setIfInBounds_toArray, List.set_cons_zero, List.set_cons_succ, i64_w, i32_w]
        rfl
      refine pure_ (i := 7) (N := some 90) (v := undef) (a' := ?_) #[true, true, true, true, true, true, true, true, false, false, false, false, false, false, false, false] rfl rfl (by kernel_rfl) (fun _ _ _ h => h) (Or.inr ⟨by rfl, rfl⟩) ?_ ?_
      rotate_left
      · simp only [Act.put, List.setIfInBounds_toArray, List.set_cons_zero, List.set_cons_succ, i64_w, i32_w]
        rfl
      refine pure_ (i := 8) (N := some 91) (v := undef) (a' := ?_) #[true, true, true, true, true, true, true, true, true, false, false, false, false, false, false, false] rfl rfl (by kernel_rfl) (fun _ _ _ h => h) (Or.inr ⟨by rfl, rfl⟩) ?_ ?_
      rotate_left
      · simp only [Act.put, List.setIfInBounds_toArray, List.set_cons_zero, List.set_cons_succ, i64_w, i32_w]
        rfl
      refine pure_ (i := 9) (N := some 92) (v := undef) (a' := ?_) #[true, true, true, true, true, true, true, true, true, true, false, false, false, false, false, false] rfl rfl (by kernel_rfl) (fun _ _ _ h => h) (Or.inr ⟨by rfl, rfl⟩) ?_ ?_
      rotate_left
      · simp only [Act.put, List.setIfInBounds_toArray, List.set_cons_zero, List.set_cons_succ, i64_w, i32_w]
        rfl
      refine pure_ (i := 10) (N := some 93) (v := undef) (a' := ?_) #[true, true, true, true, true, true, true, true, true, true, true, false, false, false, false, false] rfl rfl (by kernel_rfl) (fun _ _ _ h => h) (Or.inr ⟨by rfl, rfl⟩) ?_ ?_
      rotate_left
      · simp only [Act.put, List.setIfInBounds_toArray, List.set_cons_zero, List.set_cons_succ, i64_w, i32_w]
        rfl
      refine pure_ (i := 11) (N := some 94) (v := undef) (a' := ?_) #[true, true, true, true, true, true, true, true, true, true, true, true, false, false, false, false] rfl rfl (by kernel_rfl) (fun _ _ _ h => h) (Or.inr ⟨by rfl, rfl⟩) ?_ ?_
      rotate_left
      · simp only [Act.put, List.setIfInBounds_toArray, List.set_cons_zero, List.set_cons_succ, i64_w, i32_w]
        rfl
      refine pure_ (i := 12) (N := some 95) (v := undef) (a' := ?_) #[true, true, true, true, true, true, true, true, true, true, true, true, true, false, false, false] rfl rfl (by kernel_rfl) (fun _ _ _ h => h) (Or.inr ⟨by rfl, rfl⟩) ?_ ?_
      rotate_left
      · simp only [Act.put, List.setIfInBounds_toArray, List.set_cons_zero, List.set_cons_succ, i64_w, i32_w]
        rfl
      refine pure_ (i := 13) (N := some 96) (v := undef) (a' := ?_) #[true, true, true, true, true, true, true, true, true, true, true, true, true, true, false, false] rfl rfl (by kernel_rfl) (fun _ _ _ h => h) (Or.inr ⟨by rfl, rfl⟩) ?_ ?_
      rotate_left
      · simp only [Act.put, List.setIfInBounds_toArray, List.set_cons_zero, List.set_cons_succ, i64_w, i32_w]
        rfl
      refine pure_ (i := 14) (N := some 97) (v := ?_) (a' := ?_) #[true, true, true, true, true, true, true, true, true, true, true, true, true, true, true, false] rfl rfl (by kernel_rfl) (fun _ _ _ h => h) (Or.inl ⟨by rfl, ?_⟩) ?_ ?_
      rotate_left
      · intro w'
        go_simp
        with_reducible rfl
      rotate_left
      · simp only [Act.put, List.setIfInBounds_toArray, List.set_cons_zero, List.set_cons_succ, i64_w, i32_w]
        rfl
      refine pure_ (i := 15) (N := some 6) (v := ?_) (a' := ?_) #[true, true, true, true, true, true, true, true, true, true, true, true, true, true, true, true] rfl rfl (by kernel_rfl) (fun _ _ _ h => h) (Or.inl ⟨by rfl, ?_⟩) ?_ ?_
      rotate_left
      · intro w'
        go_simp
        with_reducible rfl
      rotate_left
      · simp only [Act.put, List.setIfInBounds_toArray, List.set_cons_zero, List.set_cons_succ, i64_w, i32_w]
        rfl
      refine done_ (by kernel_rfl) ?_
      go_wp2_with fail
      go_ret
      exact ⟨rfl, (HB2.out.trans (HBd2.out.mono HB2.out.size)).drew⟩
  · have hI2 := D_in hyb.out
    have h12 := enc_D hyb.out hlt
    have hd5 : DE ys = 0 := by unfold DE; rw [if_neg hlt]
    rw [hd5] at hdec
    generalize D0 ys = x0 at hdec hI2 h12
    generalize D1 ys = x1 at hdec hI2 h12
    generalize D2 ys = x2 at hdec hI2 h12
    generalize D3 ys = x3 at hdec hI2 h12
    generalize D4 ys = x4 at hdec hI2 h12
    have H12 := Lib.hid h12
    have HI2 := Lib.hid hI2
    clear h12 hI2 hd5
    refine hdec.mono ?_
    rintro e w9 ⟨rfl, hb9⟩
    have HX9 := Lib.hid (keepB hb9 HX8.out)
    have HB9 := Lib.hid (belowT HBB8.out hb9)
    clear hb9 HX8 HBB8 hdec
    have p0 : w9.cell? ⟨w4.heap.size, 0, none⟩ = some (.int .u8 ver) := cell_blk HX9.out rfl
    have p1 : w9.cell? ⟨w4.heap.size, 1, none⟩ = some (.int .u8 ty) := cell_blk HX9.out rfl
    have p2 : w9.cell? ⟨w4.heap.size, 2, none⟩ = some (.int .u16 fl) := cell_blk HX9.out rfl
    have p3 : w9.cell? ⟨w4.heap.size, 3, none⟩ = some (.int .u32 st) := cell_blk HX9.out rfl
    have p4 : w9.cell? ⟨w4.heap.size, 4, none⟩ = some (.int .u32 ln) := cell_blk HX9.out rfl
    have q0 : w9.frozen? ⟨w4.heap.size, 0, none⟩ = false := free_blk HX9.out
    have q1 : w9.frozen? ⟨w4.heap.size, 1, none⟩ = false := free_blk HX9.out
    have q2 : w9.frozen? ⟨w4.heap.size, 2, none⟩ = false := free_blk HX9.out
    have q3 : w9.frozen? ⟨w4.heap.size, 3, none⟩ = false := free_blk HX9.out
    have q4 : w9.frozen? ⟨w4.heap.size, 4, none⟩ = false := free_blk HX9.out
    have hdl : decide ((12 : Int) ≤ ys.length) = true := by simp; omega
    have hev : errv sa 0 = .nilIface := rfl
    go_wp2_with fail
    obtain ⟨wy, hwy⟩ : ∃ wy, wy = ((((w9.setCell ⟨w4.heap.size, 0, none⟩ (.int .u8 x0)).setCell ⟨w4.heap.size, 1, none⟩ (.int .u8 x1)).setCell ⟨w4.heap.size, 2, none⟩ (.int .u16 x2)).setCell ⟨w4.heap.size, 3, none⟩ (.int .u32 x3)).setCell ⟨w4.heap.size, 4, none⟩ (.int .u32 x4) := ⟨_, rfl⟩
    have hg4 : w2.heap.size ≤ w4.heap.size := HB4.out.size
    have HBy := Lib.hid (show Below w2.heap.size w2 wy by rw [hwy]; exact ((((HB9.out.setCell hg4 _).setCell hg4 _).setCell hg4 _).setCell hg4 _).setCell hg4 _)
    have hXy : wy.heap[w4.heap.size]? = some (.cells #[.int .u8 x0, .int .u8 x1, .int .u16 x2, .int .u32 x3, .int .u32 x4] 26 (0, 0)) := by rw [hwy]; exact set_blk _ (set_blk _ (set_blk _ (set_blk _ (set_blk _ HX9.out))))
    rw [← hwy]
    clear hwy p0 p1 p2 p3 p4 q0 q1 q2 q3 q4 hdl hev HX9 HB9
    have p0 : wy.cell? ⟨w4.heap.size, 0, none⟩ = some (.int .u8 x0) := cell_blk hXy rfl
    have p1 : wy.cell? ⟨w4.heap.size, 1, none⟩ = some (.int .u8 x1) := cell_blk hXy rfl
    have p2 : wy.cell? ⟨w4.heap.size, 2, none⟩ = some (.int .u16 x2) := cell_blk hXy rfl
    have p3 : wy.cell? ⟨w4.heap.size, 3, none⟩ = some (.int .u32 x3) := cell_blk hXy rfl
    have p4 : wy.cell? ⟨w4.heap.size, 4, none⟩ = some (.int .u32 x4) := cell_blk hXy rfl
    have hc12 : (12 : Int) ≤ d := by have := (HU.out.at_ HBy.out).ys.cap; omega
    clear hXy
    refine start_ (n := 11) (S := fun w' => w'.cell? ⟨w4.heap.size, 0, none⟩ = some (.int .u8 x0) ∧ w'.cell? ⟨w4.heap.size, 1, none⟩ = some (.int .u8 x1) ∧ w'.cell? ⟨w4.heap.size, 2, none⟩ = some (.int .u16 x2) ∧ w'.cell? ⟨w4.heap.size, 3, none⟩ = some (.int .u32 x3) ∧ w'.cell? ⟨w4.heap.size, 4, none⟩ = some (.int .u32 x4) ∧ Hid (Below wy.heap.size wy w')) (ds := []) #[false, false, false, false, false, false, false, false, false, false, false] (by kernel_rfl) rfl rfl (⟨p0, p1, p2, p3, p4, Lib.hid (Below.refl _ _).drew⟩) (fun hHeld => ?_)
    refine pure_ (i := 0) (N := some 51) (v := ?_) (a' := ?_) #[true, false, false, false, false, false, false, false, false, false, false] rfl rfl (by kernel_rfl) (fun _ _ _ h => h) (Or.inl ⟨by rfl, ?_⟩) ?_ ?_
    rotate_left
    · intro w'
      go_simp
      with_reducible rfl
    rotate_left
    · simp only [Act.put, List.setIfInBounds_toArray, List.set_cons_zero, List.set_cons_succ, i64_w, i32_w]
      rfl
    refine pure_ (i := 1) (N := some 52) (v := ?_) (a' := ?_) #[true, true, false, false, false, false, false, false, false, false, false] rfl rfl (by kernel_rfl) (fun _ _ _ h => h) (Or.inl ⟨by rfl, ?_⟩) ?_ ?_
    rotate_left
    · intro w'
      go_simp
      with_reducible rfl
    rotate_left
    · simp only [Act.put, List.setIfInBounds_toArray, List.set_cons_zero, List.set_cons_succ, i64_w, i32_w]
      rfl
    refine pure_ (i := 2) (N := some 53) (v := ?_) (a' := ?_) #[true, true, true, false, false, false, false, false, false, false, false] rfl rfl (by kernel_rfl) (fun _ _ _ h => h) (Or.inl ⟨by rfl, ?_⟩) ?_ ?_
    rotate_left
    · intro w'
      go_simp
      with_reducible rfl
    rotate_left
    · simp only [Act.put, List.setIfInBounds_toArray, List.set_cons_zero, List.set_cons_succ, i64_w, i32_w]
      rfl
    refine pure_ (i := 6) (N := some 57) (v := ?_) (a' := ?_) #[true, true, true, false, false, false, true, false, false, false, false] rfl rfl (by kernel_rfl) (fun _ _ _ h => h) (Or.inl ⟨by rfl, ?_⟩) ?_ ?_
    rotate_left
    · intro w'
      go_simp
      with_reducible rfl
    rotate_left
    · simp only [Act.put, List.setIfInBounds_toArray, List.set_cons_zero, List.set_cons_succ, i64_w, i32_w]
      rfl
    refine pure_ (i := 7) (N := some 58) (v := ?_) (a' := ?_) #[true, true, true, false, false, false, true, true, false, false, false] rfl rfl (by kernel_rfl) (fun _ _ _ h => h) (Or.inl ⟨by rfl, ?_⟩) ?_ ?_
    rotate_left
    · intro w'
      go_simp
      with_reducible rfl
    rotate_left
    · simp only [Act.put, List.setIfInBounds_toArray, List.set_cons_zero, List.set_cons_succ, i64_w, i32_w]
      rfl
    refine take_ (i := 3) (N := some 54) (v := ?_) (a' := ?_) #[true, true, true, true, false, false, true, true, false, false, false] rfl rfl (by kernel_rfl) (fun _ _ _ h => h) (Or.inl ⟨by rfl, ?_⟩) hHeld ?_ ?_
    rotate_left
    · rintro w' ⟨s0, s1, s2, s3, s4, s5⟩
      go_simp
      with_reducible rfl
    rotate_left
    · simp only [Act.put, List.setIfInBounds_toArray, List.set_cons_zero, List.set_cons_succ, i64_w, i32_w]
      rfl
    refine take_ (i := 8) (N := some 59) (v := ?_) (a' := ?_) #[true, true, true, true, false, false, true, true, true, false, false] rfl rfl (by kernel_rfl) (fun _ _ _ h => h) (Or.inl ⟨by rfl, ?_⟩) hHeld ?_ ?_
    rotate_left
    · rintro w' ⟨s0, s1, s2, s3, s4, s5⟩
      refine (conv_run (by rfl) (by rfl) ((HU.out.at_ (belowT HBy.out s5.out)).ys.take 12 (by omega))).trans ?_
      with_reducible rfl
    rotate_left
    · simp only [Act.put, List.setIfInBounds_toArray, List.set_cons_zero, List.set_cons_succ, i64_w, i32_w]
      rfl
    refine one_ (i := 4) (N := some 55) #[true, true, true, true, true, false, true, true, true, false, false] rfl rfl (by kernel_rfl) (by decide) (fun K hK => ?_)
    refine goes_ Tryd.func28 (by kernel_rfl) rfl #[hdr x0 x1 x2 x3 x4] (by rfl) rfl rfl (by simp only [List.map_toArray, List.map_cons, List.map_nil]; rfl) ?_
    with_reducible refine (encode_any x0 x1 x2 x3 x4 _ HI2.out.f0 HI2.out.f1 HI2.out.s0 HI2.out.s1 HI2.out.l0 HI2.out.l1).mono ?_
    rintro e wz ⟨gz, rfl, hoz, hbz⟩
    refine ⟨_, rfl, ?_⟩
    have HQz := Lib.hid (own_bs12 hoz (by rw [H12.out]; exact fun x hx => hyb.out x (List.mem_of_mem_take hx)) rfl)
    rw [H12.out] at HQz
    have HBzz := Lib.hid hbz
    clear hoz hbz
    refine hK.out _ _ (⟨keepA HBzz.out hHeld.1, keepA HBzz.out hHeld.2.1, keepA HBzz.out hHeld.2.2.1, keepA HBzz.out hHeld.2.2.2.1, keepA HBzz.out hHeld.2.2.2.2.1, Lib.hid (belowT hHeld.2.2.2.2.2.out HBzz.out)⟩) (fun hHeld => ?_)
    clear hK K
    refine norm_ (a' := ?_) ?_ ?_
    rotate_left
    · show Act.put _ (some 55) _ = _
      simp only [Act.put, List.setIfInBounds_toArray, List.set_cons_zero, List.set_cons_succ, i64_w, i32_w]
      rfl
    refine one_ (i := 5) (N := some 56) #[true, true, true, true, true, true, true, true, true, false, false] rfl rfl (by kernel_rfl) (by decide) (fun K hK => ?_)
    refine value_ (by rfl) rfl (conv_run (by rfl) (by rfl) HQz.out) ?_
    refine hK.out _ _ (hHeld) (fun hHeld => ?_)
    clear hK K
    refine norm_ (a' := ?_) ?_ ?_
    rotate_left
    · show Act.put _ (some 56) _ = _
      simp only [Act.put, List.setIfInBounds_toArray, List.set_cons_zero, List.set_cons_succ, i64_w, i32_w]
      rfl
    refine pure_ (i := 9) (N := some 60) (v := ?_) (a' := ?_) #[true, true, true, true, true, true, true, true, true, true, false] rfl rfl (by kernel_rfl) (fun _ _ _ h => h) (Or.inl ⟨by rfl, ?_⟩) ?_ ?_
    rotate_left
    · intro w'
      go_simp
      with_reducible rfl
    rotate_left
    · simp only [Act.put, List.setIfInBounds_toArray, List.set_cons_zero, List.set_cons_succ, i64_w, i32_w]
      rfl
    refine pure_ (i := 10) (N := some 61) (v := ?_) (a' := ?_) #[true, true, true, true, true, true, true, true, true, true, true] rfl rfl (by kernel_rfl) (fun _ _ _ h => h) (Or.inl ⟨by rfl, ?_⟩) ?_ ?_
    rotate_left
    · intro w'
      go_simp
      with_reducible rfl
    rotate_left
    · simp only [Act.put, List.setIfInBounds_toArray, List.set_cons_zero, List.set_cons_succ, i64_w, i32_w]
      rfl
    refine done_ (by kernel_rfl) ?_
    have HBz := Lib.hid (belowT HBy.out hHeld.2.2.2.2.2.out)
    clear hHeld p0 p1 p2 p3 p4 HQz HBzz HBy
    have HKz := Lib.hid (HU.out.at_ HBz.out)
    have HUz := Lib.hid (HU.out.next HBz.out)
    go_wp2_with fail
    by_cases hne : (xs.length : Int) = szF ty ln
    · go_wp2_with fail
      refine start_ (n := 13) (S := fun w' => w'.cell? ⟨w.heap.size, 0, none⟩ = some (.int .u8 ver) ∧ w'.cell? ⟨w.heap.size, 1, none⟩ = some (.int .u8 ty) ∧ w'.cell? ⟨w.heap.size, 2, none⟩ = some (.int .u16 fl) ∧ w'.cell? ⟨w.heap.size, 3, none⟩ = some (.int .u32 st) ∧ w'.cell? ⟨w.heap.size, 4, none⟩ = some (.int .u32 ln) ∧ w'.cell? ⟨w.heap.size, 5, none⟩ = some (.slice A xs.length c) ∧ Hid (Below wz.heap.size wz w')) (ds := []) #[false, false, false, false, false, false, false, false, false, false, false, false, false] (by kernel_rfl) rfl rfl (⟨HKz.out.bx.1, HKz.out.bx.2.1, HKz.out.bx.2.2.1, HKz.out.bx.2.2.2.1, HKz.out.bx.2.2.2.2.1, HKz.out.bx.2.2.2.2.2, Lib.hid (Below.refl _ _).drew⟩) (fun hHeld => ?_)
      refine pure_ (i := 0) (N := some 63) (v := ?_) (a' := ?_) #[true, false, false, false, false, false, false, false, false, false, false, false, false] rfl rfl (by kernel_rfl) (fun _ _ _ h => h) (Or.inl ⟨by rfl, ?_⟩) ?_ ?_
      rotate_left
      · intro w'
        go_simp
        with_reducible rfl
      rotate_left
      · simp only [Act.put, List.setIfInBounds_toArray, List.set_cons_zero, List.set_cons_succ, i64_w, i32_w]
        rfl
      refine pure_ (i := 3) (N := some 66) (v := ?_) (a' := ?_) #[true, false, false, true, false, false, false, false, false, false, false, false, false] rfl rfl (by kernel_rfl) (fun _ _ _ h => h) (Or.inl ⟨by rfl, ?_⟩) ?_ ?_
      rotate_left
      · intro w'
        go_simp
        with_reducible rfl
      rotate_left
      · simp only [Act.put, List.setIfInBounds_toArray, List.set_cons_zero, List.set_cons_succ, i64_w, i32_w]
        rfl
      refine take_ (i := 1) (N := some 64) (v := ?_) (a' := ?_) #[true, true, false, true, false, false, false, false, false, false, false, false, false] rfl rfl (by kernel_rfl) (fun _ _ _ h => h) (Or.inl ⟨by rfl, ?_⟩) hHeld ?_ ?_
      rotate_left
      · rintro w' ⟨s0, s1, s2, s3, s4, s5, s6⟩
        go_simp
        with_reducible rfl
      rotate_left
      · simp only [Act.put, List.setIfInBounds_toArray, List.set_cons_zero, List.set_cons_succ, i64_w, i32_w]
        rfl
      refine take_ (i := 4) (N := some 67) (v := ?_) (a' := ?_) #[true, true, false, true, true, false, false, false, false, false, false, false, false] rfl rfl (by kernel_rfl) (fun _ _ _ h => h) (Or.inl ⟨by rfl, ?_⟩) hHeld ?_ ?_
      rotate_left
      · rintro w' ⟨s0, s1, s2, s3, s4, s5, s6⟩
        go_simp
        with_reducible rfl
      rotate_left
      · simp only [Act.put, List.setIfInBounds_toArray, List.set_cons_zero, List.set_cons_succ, i64_w, i32_w]
        rfl
      refine one_ (i := 2) (N := some 65) #[true, true, true, true, true, false, false, false, false, false, false, false, false] rfl rfl (by kernel_rfl) (by decide) (fun K hK => ?_)
      refine value_ (w1 := ?_) (v := ?_) (by rfl) rfl ?_ ?_
      rotate_left 2
      · go_simp
        constructor
        · rfl
        · rfl
      have hoa : Own (wz.alloc (.cells #[] 5)).drew wz.heap.size (.slice (some ⟨wz.heap.size, 0, none⟩) 0 0) [] := own_new wz wz.heap.size [] (Nat.le_refl _) (by simp)
      have hba : Below wz.drew.heap.size wz.drew (wz.alloc (.cells #[] 5)).drew := below_da _ _
      generalize (wz.alloc (.cells #[] 5)).drew = wa at hoa hba ⊢
      have HOa := Lib.hid hoa
      have HBa := Lib.hid hba
      clear hoa hba
      refine hK.out _ _ (⟨keepA HBa.out hHeld.1, keepA HBa.out hHeld.2.1, keepA HBa.out hHeld.2.2.1, keepA HBa.out hHeld.2.2.2.1, keepA HBa.out hHeld.2.2.2.2.1, keepA HBa.out hHeld.2.2.2.2.2.1, Lib.hid (belowT hHeld.2.2.2.2.2.2.out HBa.out)⟩) (fun hHeld => ?_)
      clear hK K
      refine norm_ (a' := ?_) ?_ ?_
      rotate_left
      · show Act.put _ (some 65) _ = _
        simp only [Act.put, List.setIfInBounds_toArray, List.set_cons_zero, List.set_cons_succ, i64_w, i32_w]
        rfl
      refine one_ (i := 5) (N := some 68) #[true, true, true, true, true, true, false, false, false, false, false, false, false] rfl rfl (by kernel_rfl) (by decide) (fun K hK => ?_)
      rw [if_pos (by rfl)]
      refine wp_append_bs (.tmp 65) (.tmp 67) rfl wz.heap.size (.slice (some ⟨wz.heap.size, 0, none⟩) 0 0) [] rfl HOa.out A xs.length c xs rfl (HUz.out.at_ hHeld.2.2.2.2.2.2.out).bs (by simp; omega) hHeld.2.2.2.2.2.2.out.size ?_
      intro vb wb hob hgb _
      have HBb := Lib.hid (hHeld.2.2.2.2.2.2.out.grown hgb hHeld.2.2.2.2.2.2.out.size (fun k hk => (HOa.out.lt k hk).1))
      obtain ⟨Ab, cb, rfl, hqb⟩ := Own.bs (show Own wb wz.heap.size vb xs from hob) hxb.out
      have HQb := Lib.hid hqb
      clear hob hgb hqb
      refine hK.out _ _ (⟨keepA HBb.out HKz.out.bx.1, keepA HBb.out HKz.out.bx.2.1, keepA HBb.out HKz.out.bx.2.2.1, keepA HBb.out HKz.out.bx.2.2.2.1, keepA HBb.out HKz.out.bx.2.2.2.2.1, keepA HBb.out HKz.out.bx.2.2.2.2.2, HBb⟩) (fun hHeld => ?_)
      clear hK K
      refine norm_ (a' := ?_) ?_ ?_
      rotate_left
      · show Act.put _ (some 68) _ = _
        simp only [Act.put, List.setIfInBounds_toArray, List.set_cons_zero, List.set_cons_succ, i64_w, i32_w]
        rfl
      refine pure_ (i := 6) (N := some 69) (v := ?_) (a' := ?_) #[true, true, true, true, true, true, true, false, false, false, false, false, false] rfl rfl (by kernel_rfl) (fun _ _ _ h => h) (Or.inl ⟨by rfl, ?_⟩) ?_ ?_
      rotate_left
      · intro w'
        go_simp
        with_reducible rfl
      rotate_left
      · simp only [Act.put, List.setIfInBounds_toArray, List.set_cons_zero, List.set_cons_succ, i64_w, i32_w]
        rfl
      refine one_ (i := 7) (N := some 70) #[true, true, true, true, true, true, true, true, false, false, false, false, false] rfl rfl (by kernel_rfl) (by decide) (fun K hK => ?_)
      refine goes_ Tryd.func27 (by kernel_rfl) rfl #[frm ver ty fl st ln Ab xs.length cb] (by rfl) rfl rfl (by simp only [List.map_toArray, List.map_cons, List.map_nil]; rfl) ?_
      with_reducible refine (fbytes_yes ver ty fl st ln Ab xs.length cb xs _ HQb.out f0 f1 s0 s1 l0 l1 hne).mono ?_
      rintro e wc ⟨vc, rfl, hoc, hbc⟩
      refine ⟨_, rfl, ?_⟩
      have HBc := Lib.hid hbc
      obtain ⟨Ac, cc, rfl, hqc⟩ := Own.bs (show Own wc _ vc zs by rw [HZ.out]; exact hoc) HNx.out
      have HQc := Lib.hid hqc
      clear hbc hoc hqc
      refine hK.out _ _ (⟨keepA HBc.out hHeld.1, keepA HBc.out hHeld.2.1, keepA HBc.out hHeld.2.2.1, keepA HBc.out hHeld.2.2.2.1, keepA HBc.out hHeld.2.2.2.2.1, keepA HBc.out hHeld.2.2.2.2.2.1, Lib.hid (belowT hHeld.2.2.2.2.2.2.out HBc.out)⟩) (fun hHeld => ?_)
      clear hK K
      refine norm_ (a' := ?_) ?_ ?_
      rotate_left
      · show Act.put _ (some 70) _ = _
        simp only [Act.put, List.setIfInBounds_toArray, List.set_cons_zero, List.set_cons_succ, i64_w, i32_w]
        rfl
      refine pure_ (i := 8) (N := some 62) (v := ?_) (a' := ?_) #[true, true, true, true, true, true, true, true, true, false, false, false, false] rfl rfl (by kernel_rfl) (fun _ _ _ h => h) (Or.inl ⟨by rfl, ?_⟩) ?_ ?_
      rotate_left
      · intro w'
        go_simp
        with_reducible rfl
      rotate_left
      · simp only [Act.put, List.setIfInBounds_toArray, List.set_cons_zero, List.set_cons_succ, i64_w, i32_w]
        rfl
      refine pure_ (i := 9) (N := some 71) (v := ?_) (a' := ?_) #[true, true, true, true, true, true, true, true, true, true, false, false, false] rfl rfl (by kernel_rfl) (fun _ _ _ h => h) (Or.inl ⟨by rfl, ?_⟩) ?_ ?_
      rotate_left
      · intro w'
        go_simp
        with_reducible rfl
      rotate_left
      · simp only [Act.put, List.setIfInBounds_toArray, List.set_cons_zero, List.set_cons_succ, i64_w, i32_w]
        rfl
      refine pure_ (i := 10) (N := some 72) (v := ?_) (a' := ?_) #[true, true, true, true, true, true, true, true, true, true, true, false, false] rfl rfl (by kernel_rfl) (fun _ _ _ h => h) (Or.inl ⟨by rfl, ?_⟩) ?_ ?_
      rotate_left
      · intro w'
        go_simp
        with_reducible rfl
      rotate_left
      · simp only [Act.put, List.setIfInBounds_toArray, List.set_cons_zero, List.set_cons_succ, i64_w, i32_w]
        rfl
      refine pure_ (i := 11) (N := some 9) (v := ?_) (a' := ?_) #[true, true, true, true, true, true, true, true, true, true, true, true, false] rfl rfl (by kernel_rfl) (fun _ _ _ h => h) (Or.inl ⟨by rfl, ?_⟩) ?_ ?_
      rotate_left
      · intro w'
        go_simp
        with_reducible rfl
      rotate_left
      · simp only [Act.put, List.setIfInBounds_toArray, List.set_cons_zero, List.set_cons_succ, i64_w, i32_w]
        rfl
      refine pure_ (i := 12) (N := some 8) (v := ?_) (a' := ?_) #[true, true, true, true, true, true, true, true, true, true, true, true, true] rfl rfl (by kernel_rfl) (fun _ _ _ h => h) (Or.inl ⟨by rfl, ?_⟩) ?_ ?_
      rotate_left
      · intro w'
        go_simp
        with_reducible rfl
      rotate_left
      · simp only [Act.put, List.setIfInBounds_toArray, List.set_cons_zero, List.set_cons_succ, i64_w, i32_w]
        rfl
      refine done_ (by kernel_rfl) ?_
      have HBc2 := Lib.hid (belowT HBz.out hHeld.2.2.2.2.2.2.out)
      have HKc := Lib.hid (HU.out.at_ HBc2.out)
      have HUc := Lib.hid (HU.out.next HBc2.out)
      have hsd : ((xs.length : Int) == szF ty ln) = true := by simp [hne]
      clear hHeld HBc HBb HBa HOa HQb
      go_wp2_with fail
      refine start_ (n := 10) (S := fun w' => w'.cell? ⟨w.heap.size, 0, none⟩ = some (.int .u8 ver) ∧ w'.cell? ⟨w.heap.size, 1, none⟩ = some (.int .u8 ty) ∧ w'.cell? ⟨w.heap.size, 2, none⟩ = some (.int .u16 fl) ∧ w'.cell? ⟨w.heap.size, 3, none⟩ = some (.int .u32 st) ∧ w'.cell? ⟨w.heap.size, 4, none⟩ = some (.int .u32 ln) ∧ w'.cell? ⟨w.heap.size, 5, none⟩ = some (.slice A xs.length c) ∧ Hid (Below wc.heap.size wc w')) (ds := []) #[false, false, false, false, false, false, false, false, false, false] (by kernel_rfl) rfl rfl (⟨HKc.out.bx.1, HKc.out.bx.2.1, HKc.out.bx.2.2.1, HKc.out.bx.2.2.2.1, HKc.out.bx.2.2.2.2.1, HKc.out.bx.2.2.2.2.2, Lib.hid (Below.refl _ _).drew⟩) (fun hHeld => ?_)
      refine pure_ (i := 0) (N := some 73) (v := ?_) (a' := ?_) #[true, false, false, false, false, false, false, false, false, false] rfl rfl (by kernel_rfl) (fun _ _ _ h => h) (Or.inl ⟨by rfl, ?_⟩) ?_ ?_
      rotate_left
      · intro w'
        go_simp
        with_reducible rfl
      rotate_left
      · simp only [Act.put, List.setIfInBounds_toArray, List.set_cons_zero, List.set_cons_succ, i64_w, i32_w]
        rfl
      refine pure_ (i := 1) (N := some 74) (v := ?_) (a' := ?_) #[true, true, false, false, false, false, false, false, false, false] rfl rfl (by kernel_rfl) (fun _ _ _ h => h) (Or.inl ⟨by rfl, ?_⟩) ?_ ?_
      rotate_left
      · intro w'
        go_simp
        with_reducible rfl
      rotate_left
      · simp only [Act.put, List.setIfInBounds_toArray, List.set_cons_zero, List.set_cons_succ, i64_w, i32_w]
        rfl
      refine pure_ (i := 2) (N := some 75) (v := ?_) (a' := ?_) #[true, true, true, false, false, false, false, false, false, false] rfl rfl (by kernel_rfl) (fun _ _ _ h => h) (Or.inl ⟨by rfl, ?_⟩) ?_ ?_
      rotate_left
      · intro w'
        go_simp
        with_reducible rfl
      rotate_left
      · simp only [Act.put, List.setIfInBounds_toArray, List.set_cons_zero, List.set_cons_succ, i64_w, i32_w]
        rfl
      refine pure_ (i := 5) (N := some 78) (v := ?_) (a' := ?_) #[true, true, true, false, false, true, false, false, false, false] rfl rfl (by kernel_rfl) (fun _ _ _ h => h) (Or.inl ⟨by rfl, ?_⟩) ?_ ?_
      rotate_left
      · intro w'
        go_simp
        with_reducible rfl
      rotate_left
      · simp only [Act.put, List.setIfInBounds_toArray, List.set_cons_zero, List.set_cons_succ, i64_w, i32_w]
        rfl
      refine take_ (i := 3) (N := some 76) (v := ?_) (a' := ?_) #[true, true, true, true, false, true, false, false, false, false] rfl rfl (by kernel_rfl) (fun _ _ _ h => h) (Or.inl ⟨by rfl, ?_⟩) hHeld ?_ ?_
      rotate_left
      · rintro w' ⟨s0, s1, s2, s3, s4, s5, s6⟩
        go_simp
        with_reducible rfl
      rotate_left
      · simp only [Act.put, List.setIfInBounds_toArray, List.set_cons_zero, List.set_cons_succ, i64_w, i32_w]
        rfl
      refine pure_ (i := 4) (N := some 77) (v := ?_) (a' := ?_) #[true, true, true, true, true, true, false, false, false, false] rfl rfl (by kernel_rfl) (fun _ _ _ h => h) (Or.inl ⟨by rfl, ?_⟩) ?_ ?_
      rotate_left
      · intro w'
        go_simp
        with_reducible rfl
      rotate_left
      · simp only [Act.put, List.setIfInBounds_toArray, List.set_cons_zero, List.set_cons_succ, i64_w, i32_w]
        rfl
      refine take_ (i := 6) (N := some 79) (v := ?_) (a' := ?_) #[true, true, true, true, true, true, true, false, false, false] rfl rfl (by kernel_rfl) (fun _ _ _ h => h) (Or.inl ⟨by rfl, ?_⟩) hHeld ?_ ?_
      rotate_left
      · rintro w' ⟨s0, s1, s2, s3, s4, s5, s6⟩
        go_simp
        with_reducible rfl
      rotate_left
      · simp only [Act.put, List.setIfInBounds_toArray, List.set_cons_zero, List.set_cons_succ, i64_w, i32_w]
        rfl
      refine one_ (i := 7) (N := some 80) #[true, true, true, true, true, true, true, true, false, false] rfl rfl (by kernel_rfl) (by decide) (fun K hK => ?_)
      refine goes_ Tryd.func43 (by kernel_rfl) rfl #[hdr ver ty fl st ln] (by rfl) rfl rfl (by simp only [List.map_toArray, List.map_cons, List.map_nil]; rfl) ?_
      with_reducible refine (size_any ver ty fl st ln _ l0 l1).mono ?_
      rintro e wd ⟨rfl, hbd⟩
      refine ⟨_, rfl, ?_⟩
      have HBd := Lib.hid hbd
      clear hbd
      refine hK.out _ _ (⟨keepA HBd.out hHeld.1, keepA HBd.out hHeld.2.1, keepA HBd.out hHeld.2.2.1, keepA HBd.out hHeld.2.2.2.1, keepA HBd.out hHeld.2.2.2.2.1, keepA HBd.out hHeld.2.2.2.2.2.1, Lib.hid (belowT hHeld.2.2.2.2.2.2.out HBd.out)⟩) (fun hHeld => ?_)
      clear hK K
      refine norm_ (a' := ?_) ?_ ?_
      rotate_left
      · show Act.put _ (some 80) _ = _
        simp only [Act.put, List.setIfInBounds_toArray, List.set_cons_zero, List.set_cons_succ, i64_w, i32_w]
        rfl
      refine pure_ (i := 8) (N := some 81) (v := ?_) (a' := ?_) #[true, true, true, true, true, true, true, true, true, false] rfl rfl (by kernel_rfl) (fun _ _ _ h => h) (Or.inl ⟨by rfl, ?_⟩) ?_ ?_
      rotate_left
      · intro w'
        go_simp
        with_reducible rfl
      rotate_left
      · simp only [Act.put, List.setIfInBounds_toArray, List.set_cons_zero, List.set_cons_succ, i64_w, i32_w]
        rfl
      refine pure_ (i := 9) (N := some 82) (v := ?_) (a' := ?_) #[true, true, true, true, true, true, true, true, true, true] rfl rfl (by kernel_rfl) (fun _ _ _ h => h) (Or.inl ⟨by rfl, ?_⟩) ?_ ?_
      rotate_left
      · intro w'
        go_simp
        with_reducible rfl
      rotate_left
      · simp only [Act.put, List.setIfInBounds_toArray, List.set_cons_zero, List.set_cons_succ, i64_w, i32_w]
        rfl
      refine done_ (by kernel_rfl) ?_
      have HBd2 := Lib.hid (belowT HBc2.out hHeld.2.2.2.2.2.2.out)
      have HKd := Lib.hid (HU.out.at_ HBd2.out)
      have HUd := Lib.hid (HU.out.next HBd2.out)
      have HQd := Lib.hid (HQc.out.next hHeld.2.2.2.2.2.2.out)
      clear hHeld HBd hsd
      go_wp2_with fail
      refine start_ (n := 16) (S := fun w' => w'.cell? ⟨w.heap.size, 0, none⟩ = some (.int .u8 ver) ∧ w'.cell? ⟨w.heap.size, 1, none⟩ = some (.int .u8 ty) ∧ w'.cell? ⟨w.heap.size, 2, none⟩ = some (.int .u16 fl) ∧ w'.cell? ⟨w.heap.size, 3, none⟩ = some (.int .u32 st) ∧ w'.cell? ⟨w.heap.size, 4, none⟩ = some (.int .u32 ln) ∧ w'.cell? ⟨w.heap.size, 5, none⟩ = some (.slice A xs.length c) ∧ Hid (Below wd.heap.size wd w')) (ds := []) #[false, false, false, false, false, false, false, false, false, false, false, false, false, false, false, false] (by kernel_rfl) rfl rfl (⟨HKd.out.bx.1, HKd.out.bx.2.1, HKd.out.bx.2.2.1, HKd.out.bx.2.2.2.1, HKd.out.bx.2.2.2.2.1, HKd.out.bx.2.2.2.2.2, Lib.hid (Below.refl _ _).drew⟩) (fun hHeld => ?_)
      refine pure_ (i := 0) (N := some 83) (v := ?_) (a' := ?_) #[true, false, false, false, false, false, false, false, false, false, false, false, false, false, false, false] rfl rfl (by kernel_rfl) (fun _ _ _ h => h) (Or.inl ⟨by rfl, ?_⟩) ?_ ?_
      rotate_left
      · intro w'
        go_simp
        with_reducible rfl
      rotate_left
      · simp only [Act.put, List.setIfInBounds_toArray, List.set_cons_zero, List.set_cons_succ, i64_w, i32_w]
        rfl
      refine pure_ (i := 1) (N := some 84) (v := ?_) (a' := ?_) #[true, true, false, false, false, false, false, false, false, false, false, false, false, false, false, false] rfl rfl (by kernel_rfl) (fun _ _ _ h => h) (Or.inl ⟨by rfl, ?_⟩) ?_ ?_
      rotate_left
      · intro w'
        go_simp
        with_reducible rfl
      rotate_left
      · simp only [Act.put, List.setIfInBounds_toArray, List.set_cons_zero, List.set_cons_succ, i64_w, i32_w]
        rfl
      refine pure_ (i := 2) (N := some 85) (v := ?_) (a' := ?_) #[true, true, true, false, false, false, false, false, false, false, false, false, false, false, false, false] rfl rfl (by kernel_rfl) (fun _ _ _ h => h) (Or.inl ⟨by rfl, ?_⟩) ?_ ?_
      rotate_left
      · intro w'
        go_simp
        with_reducible rfl
      rotate_left
      · simp only [Act.put, List.setIfInBounds_toArray, List.set_cons_zero, List.set_cons_succ, i64_w, i32_w]
        rfl
      refine pure_ (i := 3) (N := some 86) (v := ?_) (a' := ?_) #[true, true, true, true, false, false, false, false, false, false, false, false, false, false, false, false] rfl rfl (by kernel_rfl) (fun _ _ _ h => h) (Or.inl ⟨by rfl, ?_⟩) ?_ ?_
      rotate_left
      · intro w'
        go_simp
        with_reducible rfl
      rotate_left
      · simp only [Act.put, List.setIfInBounds_toArray, List.set_cons_zero, List.set_cons_succ, i64_w, i32_w]
        rfl
      refine pure_ (i := 5) (N := some 88) (v := ?_) (a' := ?_) #[true, true, true, true, false, true, false, false, false, false, false, false, false, false, false, false] rfl rfl (by kernel_rfl) (fun _ _ _ h => h) (Or.inl ⟨by rfl, ?_⟩) ?_ ?_
      rotate_left
      · intro w'
        go_simp
        with_reducible rfl
      rotate_left
      · simp only [Act.put, List.setIfInBounds_toArray, List.set_cons_zero, List.set_cons_succ, i64_w, i32_w]
        rfl
      refine pure_ (i := 9) (N := some 92) (v := ?_) (a' := ?_) #[true, true, true, true, false, true, false, false, false, true, false, false, false, false, false, false] rfl rfl (by kernel_rfl) (fun _ _ _ h => h) (Or.inl ⟨by rfl, ?_⟩) ?_ ?_
      rotate_left
      · intro w'
        go_simp
        with_reducible rfl
      rotate_left
      · simp only [Act.put, List.setIfInBounds_toArray, List.set_cons_zero, List.set_cons_succ, i64_w, i32_w]
        rfl
      refine take_ (i := 4) (N := some 87) (v := ?_) (a' := ?_) #[true, true, true, true, true, true, false, false, false, true, false, false, false, false, false, false] rfl rfl (by kernel_rfl) (fun _ _ _ h => h) (Or.inl ⟨by rfl, ?_⟩) hHeld ?_ ?_
      rotate_left
      · rintro w' ⟨s0, s1, s2, s3, s4, s5, s6⟩
        refine (conv_run (by rfl) (by rfl) (HQd.out.next s6.out)).trans ?_
        with_reducible rfl
      rotate_left
      · simp only [Act.put, List.setIfInBounds_toArray, List.set_cons_zero, List.set_cons_succ, i64_w, i32_w]
        rfl
      refine take_ (i := 6) (N := some 89) (v := ?_) (a' := ?_) #[true, true, true, true, true, true, true, false, false, true, false, false, false, false, false, false] rfl rfl (by kernel_rfl) (fun _ _ _ h => h) (Or.inl ⟨by rfl, ?_⟩) hHeld ?_ ?_
      rotate_left
      · rintro w' ⟨s0, s1, s2, s3, s4, s5, s6⟩
        go_simp
        with_reducible rfl
      rotate_left
      · simp only [Act.put, List.setIfInBounds_toArray, List.set_cons_zero, List.set_cons_succ, i64_w, i32_w]
        rfl
      refine take_ (i := 10) (N := some 93) (v := ?_) (a' := ?_) #[true, true, true, true, true, true, true, false, false, true, true, false, false, false, false, false] rfl rfl (by kernel_rfl) (fun _ _ _ h => h) (Or.inl ⟨by rfl, ?_⟩) hHeld ?_ ?_
      rotate_left
      · rintro w' ⟨s0, s1, s2, s3, s4, s5, s6⟩
        go_simp
        with_reducible rfl
      rotate_left
      · simp only [Act.put, List.setIfInBounds_toArray, List.set_cons_zero, List.set_cons_succ, i64_w, i32_w]
        rfl
      refine take_ (i := 11) (N := some 94) (v := ?_) (a' := ?_) #[true, true, true, true, true, true, true, false, false, true, true, true, false, false, false, false] rfl rfl (by kernel_rfl) (fun _ _ _ h => h) (Or.inl ⟨by rfl, ?_⟩) hHeld ?_ ?_
      rotate_left
      · rintro w' ⟨s0, s1, s2, s3, s4, s5, s6⟩
        refine (conv_run (by rfl) (by rfl) (HUd.out.at_ s6.out).bs).trans ?_
        with_reducible rfl
      rotate_left
      · simp only [Act.put, List.setIfInBounds_toArray, List.set_cons_zero, List.set_cons_succ, i64_w, i32_w]
        rfl
      refine one_ (i := 7) (N := some 90) #[true, true, true, true, true, true, true, true, false, true, true, true, false, false, false, false] rfl rfl (by kernel_rfl) (by decide) (fun K hK => ?_)
      refine goes_ Tryd.func28 (by kernel_rfl) rfl #[hdr ver ty fl st ln] (by rfl) rfl rfl (by simp only [List.map_toArray, List.map_cons, List.map_nil]; rfl) ?_
      with_reducible refine (encode_any ver ty fl st ln _ f0 f1 s0 s1 l0 l1).mono ?_
      rintro e we ⟨ge, rfl, hoe, hbe⟩
      refine ⟨_, rfl, ?_⟩
      have HQe := Lib.hid (own_bs12 hoe HN.out rfl)
      have HBe := Lib.hid hbe
      clear hoe hbe
      refine hK.out _ _ (⟨keepA HBe.out hHeld.1, keepA HBe.out hHeld.2.1, keepA HBe.out hHeld.2.2.1, keepA HBe.out hHeld.2.2.2.1, keepA HBe.out hHeld.2.2.2.2.1, keepA HBe.out hHeld.2.2.2.2.2.1, Lib.hid (belowT hHeld.2.2.2.2.2.2.out HBe.out)⟩) (fun hHeld => ?_)
      clear hK K
      refine norm_ (a' := ?_) ?_ ?_
      rotate_left
      · show Act.put _ (some 90) _ = _
        simp only [Act.put, List.setIfInBounds_toArray, List.set_cons_zero, List.set_cons_succ, i64_w, i32_w]
        rfl
      refine one_ (i := 8) (N := some 91) #[true, true, true, true, true, true, true, true, true, true, true, true, false, false, false, false] rfl rfl (by kernel_rfl) (by decide) (fun K hK => ?_)
      refine value_ (by rfl) rfl (conv_run (by rfl) (by rfl) HQe.out) ?_
      refine hK.out _ _ (hHeld) (fun hHeld => ?_)
      clear hK K
      refine norm_ (a' := ?_) ?_ ?_
      rotate_left
      · show Act.put _ (some 91) _ = _
        simp only [Act.put, List.setIfInBounds_toArray, List.set_cons_zero, List.set_cons_succ, i64_w, i32_w]
        rfl
      refine pure_ (i := 12) (N := some 95) (v := ?_) (a' := ?_) #[true, true, true, true, true, true, true, true, true, true, true, true, true, false, false, false] rfl rfl (by kernel_rfl) (fun _ _ _ h => h) (Or.inl ⟨by rfl, ?_⟩) ?_ ?_
      rotate_left
      · intro w'
        refine (add_run (by rfl) (by rfl) (by rfl) (by rw [strOfNums_size, strOfNums_size]; exact HLs.out)).trans ?_
        with_reducible rfl
      rotate_left
      · simp only [Act.put, List.setIfInBounds_toArray, List.set_cons_zero, List.set_cons_succ, i64_w, i32_w]
        rfl
      refine pure_ (i := 13) (N := some 96) (v := ?_) (a' := ?_) #[true, true, true, true, true, true, true, true, true, true, true, true, true, true, false, false] rfl rfl (by kernel_rfl) (fun _ _ _ h => h) (Or.inl ⟨by rfl, ?_⟩) ?_ ?_
      rotate_left
      · intro w'
        go_simp
        with_reducible rfl
      rotate_left
      · simp only [Act.put, List.setIfInBounds_toArray, List.set_cons_zero, List.set_cons_succ, i64_w, i32_w]
        rfl
      refine pure_ (i := 14) (N := some 97) (v := ?_) (a' := ?_) #[true, true, true, true, true, true, true, true, true, true, true, true, true, true, true, false] rfl rfl (by kernel_rfl) (fun _ _ _ h => h) (Or.inl ⟨by rfl, ?_⟩) ?_ ?_
      rotate_left
      · intro w'
        go_simp
        with_reducible rfl
      rotate_left
      · simp only [Act.put, List.setIfInBounds_toArray, List.set_cons_zero, List.set_cons_succ, i64_w, i32_w]
        rfl
      refine pure_ (i := 15) (N := some 6) (v := ?_) (a' := ?_) #[true, true, true, true, true, true, true, true, true, true, true, true, true, true, true, true] rfl rfl (by kernel_rfl) (fun _ _ _ h => h) (Or.inl ⟨by rfl, ?_⟩) ?_ ?_
      rotate_left
      · intro w'
        go_simp
        with_reducible rfl
      rotate_left
      · simp only [Act.put, List.setIfInBounds_toArray, List.set_cons_zero, List.set_cons_succ, i64_w, i32_w]
        rfl
      refine done_ (by kernel_rfl) ?_
      have HBe2 := Lib.hid (belowT HBd2.out hHeld.2.2.2.2.2.2.out)
      clear hHeld
      go_wp2_with fail
      go_ret
      refine ⟨ret_bool ?_, HB2.out.trans (HBe2.out.mono HB2.out.size)⟩
      rw [HZ.out, str_app]
      simp
    · go_wp2_with fail
      refine start_ (n := 13) (S := fun w' => w'.cell? ⟨w.heap.size, 0, none⟩ = some (.int .u8 ver) ∧ w'.cell? ⟨w.heap.size, 1, none⟩ = some (.int .u8 ty) ∧ w'.cell? ⟨w.heap.size, 2, none⟩ = some (.int .u16 fl) ∧ w'.cell? ⟨w.heap.size, 3, none⟩ = some (.int .u32 st) ∧ w'.cell? ⟨w.heap.size, 4, none⟩ = some (.int .u32 ln) ∧ w'.cell? ⟨w.heap.size, 5, none⟩ = some (.slice A xs.length c) ∧ Hid (Below wz.heap.size wz w')) (ds := []) #[false, false, false, false, false, false, false, false, false, false, false, false, false] (by kernel_rfl) rfl rfl (⟨HKz.out.bx.1, HKz.out.bx.2.1, HKz.out.bx.2.2.1, HKz.out.bx.2.2.2.1, HKz.out.bx.2.2.2.2.1, HKz.out.bx.2.2.2.2.2, Lib.hid (Below.refl _ _).drew⟩) (fun hHeld => ?_)
      refine pure_ (i := 0) (N := some 63) (v := ?_) (a' := ?_) #[true, false, false, false, false, false, false, false, false, false, false, false, false] rfl rfl (by kernel_rfl) (fun _ _ _ h => h) (Or.inl ⟨by rfl, ?_⟩) ?_ ?_
      rotate_left
      · intro w'
        go_simp
        with_reducible rfl
      rotate_left
      · simp only [Act.put, List.setIfInBounds_toArray, List.set_cons_zero, List.set_cons_succ, i64_w, i32_w]
        rfl
      refine pure_ (i := 3) (N := some 66) (v := ?_) (a' := ?_) #[true, false, false, true, false, false, false, false, false, false, false, false, false] rfl rfl (by kernel_rfl) (fun _ _ _ h => h) (Or.inl ⟨by rfl, ?_⟩) ?_ ?_
      rotate_left
      · intro w'
        go_simp
        with_reducible rfl
      rotate_left
      · simp only [Act.put, List.setIfInBounds_toArray, List.set_cons_zero, List.set_cons_succ, i64_w, i32_w]
        rfl
      refine take_ (i := 1) (N := some 64) (v := ?_) (a' := ?_) #[true, true, false, true, false, false, false, false, false, false, false, false, false] rfl rfl (by kernel_rfl) (fun _ _ _ h => h) (Or.inl ⟨by rfl, ?_⟩) hHeld ?_ ?_
      rotate_left
      · rintro w' ⟨s0, s1, s2, s3, s4, s5, s6⟩
        go_simp
        with_reducible rfl
      rotate_left
      · simp only [Act.put, List.setIfInBounds_toArray, List.set_cons_zero, List.set_cons_succ, i64_w, i32_w]
        rfl
      refine take_ (i := 4) (N := some 67) (v := ?_) (a' := ?_) #[true, true, false, true, true, false, false, false, false, false, false, false, false] rfl rfl (by kernel_rfl) (fun _ _ _ h => h) (Or.inl ⟨by rfl, ?_⟩) hHeld ?_ ?_
      rotate_left
      · rintro w' ⟨s0, s1, s2, s3, s4, s5, s6⟩
        go_simp
        with_reducible rfl
      rotate_left
      · simp only [Act.put, List.setIfInBounds_toArray, List.set_cons_zero, List.set_cons_succ, i64_w, i32_w]
        rfl
      refine one_ (i := 2) (N := some 65) #[true, true, true, true, true, false, false, false, false, false, false, false, false] rfl rfl (by kernel_rfl) (by decide) (fun K hK => ?_)
      refine value_ (w1 := ?_) (v := ?_) (by rfl) rfl ?_ ?_
      rotate_left 2
      · go_simp
        constructor
        · rfl
        · rfl
      have hoa : Own (wz.alloc (.cells #[] 5)).drew wz.heap.size (.slice (some ⟨wz.heap.size, 0, none⟩) 0 0) [] := own_new wz wz.heap.size [] (Nat.le_refl _) (by simp)
      have hba : Below wz.drew.heap.size wz.drew (wz.alloc (.cells #[] 5)).drew := below_da _ _
      generalize (wz.alloc (.cells #[] 5)).drew = wa at hoa hba ⊢
      have HOa := Lib.hid hoa
      have HBa := Lib.hid hba
      clear hoa hba
      refine hK.out _ _ (⟨keepA HBa.out hHeld.1, keepA HBa.out hHeld.2.1, keepA HBa.out hHeld.2.2.1, keepA HBa.out hHeld.2.2.2.1, keepA HBa.out hHeld.2.2.2.2.1, keepA HBa.out hHeld.2.2.2.2.2.1, Lib.hid (belowT hHeld.2.2.2.2.2.2.out HBa.out)⟩) (fun hHeld => ?_)
      clear hK K
      refine norm_ (a' := ?_) ?_ ?_
      rotate_left
      · show Act.put _ (some 65) _ = _
        simp only [Act.put, List.setIfInBounds_toArray, List.set_cons_zero, List.set_cons_succ, i64_w, i32_w]
        rfl
      refine one_ (i := 5) (N := some 68) #[true, true, true, true, true, true, false, false, false, false, false, false, false] rfl rfl (by kernel_rfl) (by decide) (fun K hK => ?_)
      rw [if_pos (by rfl)]
      refine wp_append_bs (.tmp 65) (.tmp 67) rfl wz.heap.size (.slice (some ⟨wz.heap.size, 0, none⟩) 0 0) [] rfl HOa.out A xs.length c xs rfl (HUz.out.at_ hHeld.2.2.2.2.2.2.out).bs (by simp; omega) hHeld.2.2.2.2.2.2.out.size ?_
      intro vb wb hob hgb _
      have HBb := Lib.hid (hHeld.2.2.2.2.2.2.out.grown hgb hHeld.2.2.2.2.2.2.out.size (fun k hk => (HOa.out.lt k hk).1))
      obtain ⟨Ab, cb, rfl, hqb⟩ := Own.bs (show Own wb wz.heap.size vb xs from hob) hxb.out
      have HQb := Lib.hid hqb
      clear hob hgb hqb
      refine hK.out _ _ (⟨keepA HBb.out HKz.out.bx.1, keepA HBb.out HKz.out.bx.2.1, keepA HBb.out HKz.out.bx.2.2.1, keepA HBb.out HKz.out.bx.2.2.2.1, keepA HBb.out HKz.out.bx.2.2.2.2.1, keepA HBb.out HKz.out.bx.2.2.2.2.2, HBb⟩) (fun hHeld => ?_)
      clear hK K
      refine norm_ (a' := ?_) ?_ ?_
      rotate_left
      · show Act.put _ (some 68) _ = _
        simp only [Act.put, List.setIfInBounds_toArray, List.set_cons_zero, List.set_cons_succ, i64_w, i32_w]
        rfl
      refine pure_ (i := 6) (N := some 69) (v := ?_) (a' := ?_) #[true, true, true, true, true, true, true, false, false, false, false, false, false] rfl rfl (by kernel_rfl) (fun _ _ _ h => h) (Or.inl ⟨by rfl, ?_⟩) ?_ ?_
      rotate_left
      · intro w'
        go_simp
        with_reducible rfl
      rotate_left
      · simp only [Act.put, List.setIfInBounds_toArray, List.set_cons_zero, List.set_cons_succ, i64_w, i32_w]
        rfl
      refine one_ (i := 7) (N := some 70) #[true, true, true, true, true, true, true, true, false, false, false, false, false] rfl rfl (by kernel_rfl) (by decide) (fun K hK => ?_)
      refine goes_ Tryd.func27 (by kernel_rfl) rfl #[frm ver ty fl st ln Ab xs.length cb] (by rfl) rfl rfl (by simp only [List.map_toArray, List.map_cons, List.map_nil]; rfl) ?_
      with_reducible refine (fbytes_no ver ty fl st ln Ab xs.length cb xs _ (HUz.out.at_ HBb.out).good HQb.out f0 f1 s0 s1 l0 l1 hne).mono ?_
      rintro e wc ⟨rfl, hbc⟩
      refine ⟨_, rfl, ?_⟩
      have HBc := Lib.hid hbc
      clear hbc
      refine hK.out _ _ (⟨keepA HBc.out hHeld.1, keepA HBc.out hHeld.2.1, keepA HBc.out hHeld.2.2.1, keepA HBc.out hHeld.2.2.2.1, keepA HBc.out hHeld.2.2.2.2.1, keepA HBc.out hHeld.2.2.2.2.2.1, Lib.hid (belowT hHeld.2.2.2.2.2.2.out HBc.out)⟩) (fun hHeld => ?_)
      clear hK K
      refine norm_ (a' := ?_) ?_ ?_
      rotate_left
      · show Act.put _ (some 70) _ = _
        simp only [Act.put, List.setIfInBounds_toArray, List.set_cons_zero, List.set_cons_succ, i64_w, i32_w]
        rfl
      refine pure_ (i := 8) (N := some 62) (v := ?_) (a' := ?_) #[true, true, true, true, true, true, true, true, true, false, false, false, false] rfl rfl (by kernel_rfl) (fun _ _ _ h => h) (Or.inl ⟨by rfl, ?_⟩) ?_ ?_
      rotate_left
      · intro w'
        go_simp
        with_reducible rfl
      rotate_left
      · simp only [Act.put, List.setIfInBounds_toArray, List.set_cons_zero, List.set_cons_succ, i64_w, i32_w]
        rfl
      refine pure_ (i := 9) (N := some 71) (v := ?_) (a' := ?_) #[true, true, true, true, true, true, true, true, true, true, false, false, false] rfl rfl (by kernel_rfl) (fun _ _ _ h => h) (Or.inl ⟨by rfl, ?_⟩) ?_ ?_
      rotate_left
      · intro w'
        go_simp
        with_reducible rfl
      rotate_left
      · simp only [Act.put, List.setIfInBounds_toArray, List.set_cons_zero, List.set_cons_succ, i64_w, i32_w]
        rfl
      refine pure_ (i := 10) (N := some 72) (v := ?_) (a' := ?_) #[true, true, true, true, true, true, true, true, true, true, true, false, false] rfl rfl (by kernel_rfl) (fun _ _ _ h => h) (Or.inl ⟨by rfl, ?_⟩) ?_ ?_
      rotate_left
      · intro w'
        go_simp
        with_reducible rfl
      rotate_left
      · simp only [Act.put, List.setIfInBounds_toArray, List.set_cons_zero, List.set_cons_succ, i64_w, i32_w]
        rfl
      refine pure_ (i := 11) (N := some 9) (v := ?_) (a' := ?_) #[true, true, true, true, true, true, true, true, true, true, true, true, false] rfl rfl (by kernel_rfl) (fun _ _ _ h => h) (Or.inl ⟨by rfl, ?_⟩) ?_ ?_
      rotate_left
      · intro w'
        go_simp
        with_reducible rfl
      rotate_left
      · simp only [Act.put, List.setIfInBounds_toArray, List.set_cons_zero, List.set_cons_succ, i64_w, i32_w]
        rfl
      refine pure_ (i := 12) (N := some 8) (v := ?_) (a' := ?_) #[true, true, true, true, true, true, true, true, true, true, true, true, true] rfl rfl (by kernel_rfl) (fun _ _ _ h => h) (Or.inl ⟨by rfl, ?_⟩) ?_ ?_
      rotate_left
      · intro w'
        go_simp
        with_reducible rfl
      rotate_left
      · simp only [Act.put, List.setIfInBounds_toArray, List.set_cons_zero, List.set_cons_succ, i64_w, i32_w]
        rfl
      refine done_ (by kernel_rfl) ?_
      have HBc2 := Lib.hid (belowT HBz.out hHeld.2.2.2.2.2.2.out)
      have HKc := Lib.hid (HU.out.at_ HBc2.out)
      have HUc := Lib.hid (HU.out.next HBc2.out)
      have hsd : ((xs.length : Int) == szF ty ln) = false := by simp [hne]
      clear hHeld HBc HBb HBa HOa HQb
      go_wp2_with fail
      refine start_ (n := 10) (S := fun w' => w'.cell? ⟨w.heap.size, 0, none⟩ = some (.int .u8 ver) ∧ w'.cell? ⟨w.heap.size, 1, none⟩ = some (.int .u8 ty) ∧ w'.cell? ⟨w.heap.size, 2, none⟩ = some (.int .u16 fl) ∧ w'.cell? ⟨w.heap.size, 3, none⟩ = some (.int .u32 st) ∧ w'.cell? ⟨w.heap.size, 4, none⟩ = some (.int .u32 ln) ∧ w'.cell? ⟨w.heap.size, 5, none⟩ = some (.slice A xs.length c) ∧ Hid (Below wc.heap.size wc w')) (ds := []) #[false, false, false, false, false, false, false, false, false, false] (by kernel_rfl) rfl rfl (⟨HKc.out.bx.1, HKc.out.bx.2.1, HKc.out.bx.2.2.1, HKc.out.bx.2.2.2.1, HKc.out.bx.2.2.2.2.1, HKc.out.bx.2.2.2.2.2, Lib.hid (Below.refl _ _).drew⟩) (fun hHeld => ?_)
      refine pure_ (i := 0) (N := some 73) (v := ?_) (a' := ?_) #[true, false, false, false, false, false, false, false, false, false] rfl rfl (by kernel_rfl) (fun _ _ _ h => h) (Or.inl ⟨by rfl, ?_⟩) ?_ ?_
      rotate_left
      · intro w'
        go_simp
        with_reducible rfl
      rotate_left
      · simp only [Act.put, List.setIfInBounds_toArray, List.set_cons_zero, List.set_cons_succ, i64_w, i32_w]
        rfl
      refine pure_ (i := 1) (N := some 74) (v := ?_) (a' := ?_) #[true, true, false, false, false, false, false, false, false, false] rfl rfl (by kernel_rfl) (fun _ _ _ h => h) (Or.inl ⟨by rfl, ?_⟩) ?_ ?_
      rotate_left
      · intro w'
        go_simp
        with_reducible rfl
      rotate_left
      · simp only [Act.put, List.setIfInBounds_toArray, List.set_cons_zero, List.set_cons_succ, i64_w, i32_w]
        rfl
      refine pure_ (i := 2) (N := some 75) (v := ?_) (a' := ?_) #[true, true, true, false, false, false, false, false, false, false] rfl rfl (by kernel_rfl) (fun _ _ _ h => h) (Or.inl ⟨by rfl, ?_⟩) ?_ ?_
      rotate_left
      · intro w'
        go_simp
        with_reducible rfl
      rotate_left
      · simp only [Act.put, List.setIfInBounds_toArray, List.set_cons_zero, List.set_cons_succ, i64_w, i32_w]
        rfl
      refine pure_ (i := 5) (N := some 78) (v := ?_) (a' := ?_) #[true, true, true, false, false, true, false, false, false, false] rfl rfl (by kernel_rfl) (fun _ _ _ h => h) (Or.inl ⟨by rfl, ?_⟩) ?_ ?_
      rotate_left
      · intro w'
        go_simp
        with_reducible rfl
      rotate_left
      · simp only [Act.put, List.setIfInBounds_toArray, List.set_cons_zero, List.set_cons_succ, i64_w, i32_w]
        rfl
      refine take_ (i := 3) (N := some 76) (v := ?_) (a' := ?_) #[true, true, true, true, false, true, false, false, false, false] rfl rfl (by kernel_rfl) (fun _ _ _ h => h) (Or.inl ⟨by rfl, ?_⟩) hHeld ?_ ?_
      rotate_left
      · rintro w' ⟨s0, s1, s2, s3, s4, s5, s6⟩
        go_simp
        with_reducible rfl
      rotate_left
      · simp only [Act.put, List.setIfInBounds_toArray, List.set_cons_zero, List.set_cons_succ, i64_w, i32_w]
        rfl
      refine pure_ (i := 4) (N := some 77) (v := ?_) (a' := ?_) #[true, true, true, true, true, true, false, false, false, false] rfl rfl (by kernel_rfl) (fun _ _ _ h => h) (Or.inl ⟨by rfl, ?_⟩) ?_ ?_
      rotate_left
      · intro w'
        go_simp
        with_reducible rfl
      rotate_left
      · simp only [Act.put, List.setIfInBounds_toArray, List.set_cons_zero, List.set_cons_succ, i64_w, i32_w]
        rfl
      refine take_ (i := 6) (N := some 79) (v := ?_) (a' := ?_) #[true, true, true, true, true, true, true, false, false, false] rfl rfl (by kernel_rfl) (fun _ _ _ h => h) (Or.inl ⟨by rfl, ?_⟩) hHeld ?_ ?_
      rotate_left
      · rintro w' ⟨s0, s1, s2, s3, s4, s5, s6⟩
        go_simp
        with_reducible rfl
      rotate_left
      · simp only [Act.put, List.setIfInBounds_toArray, List.set_cons_zero, List.set_cons_succ, i64_w, i32_w]
        rfl
      refine one_ (i := 7) (N := some 80) #[true, true, true, true, true, true, true, true, false, false] rfl rfl (by kernel_rfl) (by decide) (fun K hK => ?_)
      refine goes_ Tryd.func43 (by kernel_rfl) rfl #[hdr ver ty fl st ln] (by rfl) rfl rfl (by simp only [List.map_toArray, List.map_cons, List.map_nil]; rfl) ?_
      with_reducible refine (size_any ver ty fl st ln _ l0 l1).mono ?_
      rintro e wd ⟨rfl, hbd⟩
      refine ⟨_, rfl, ?_⟩
      have HBd := Lib.hid hbd
      clear hbd
      refine hK.out _ _ (⟨keepA HBd.out hHeld.1, keepA HBd.out hHeld.2.1, keepA HBd.out hHeld.2.2.1, keepA HBd.out hHeld.2.2.2.1, keepA HBd.out hHeld.2.2.2.2.1, keepA HBd.out hHeld.2.2.2.2.2.1, Lib.hid (belowT hHeld.2.2.2.2.2.2.out HBd.out)⟩) (fun hHeld => ?_)
      clear hK K
      refine norm_ (a' := ?_) ?_ ?_
      rotate_left
      · show Act.put _ (some 80) _ = _
        simp only [Act.put, List.setIfInBounds_toArray, List.set_cons_zero, List.set_cons_succ, i64_w, i32_w]
        rfl
      refine pure_ (i := 8) (N := some 81) (v := ?_) (a' := ?_) #[true, true, true, true, true, true, true, true, true, false] rfl rfl (by kernel_rfl) (fun _ _ _ h => h) (Or.inl ⟨by rfl, ?_⟩) ?_ ?_
      rotate_left
      · intro w'
        go_simp
        with_reducible rfl
      rotate_left
      · simp only [Act.put, List.setIfInBounds_toArray, List.set_cons_zero, List.set_cons_succ, i64_w, i32_w]
        rfl
      refine pure_ (i := 9) (N := some 82) (v := ?_) (a' := ?_) #[true, true, true, true, true, true, true, true, true, true] rfl rfl (by kernel_rfl) (fun _ _ _ h => h) (Or.inl ⟨by rfl, ?_⟩) ?_ ?_
      rotate_left
      · intro w'
        go_simp
        with_reducible rfl
      rotate_left
      · simp only [Act.put, List.setIfInBounds_toArray, List.set_cons_zero, List.set_cons_succ, i64_w, i32_w]
        rfl
      refine done_ (by kernel_rfl) ?_
      have HBd2 := Lib.hid (belowT HBc2.out hHeld.2.2.2.2.2.2.out)
      have HKd := Lib.hid (HU.out.at_ HBd2.out)
      have HUd := Lib.hid (HU.out.next HBd2.out)
      clear hHeld HBd hsd
      go_wp2_with fail
      refine start_ (n := 16) (S := fun w' => Hid (Below wd.heap.size wd w')) (ds := []) #[false, false, false, false, false, false, false, false, false, false, false, false, false, false, false, false] (by kernel_rfl) rfl rfl ((Lib.hid (Below.refl _ _).drew)) (fun hHeld => ?_)
      refine pure_ (i := 0) (N := some 83) (v := ?_) (a' := ?_) #[true, false, false, false, false, false, false, false, false, false, false, false, false, false, false, false] rfl rfl (by kernel_rfl) (fun _ _ _ h => h) (Or.inl ⟨by rfl, ?_⟩) ?_ ?_
      rotate_left
      · intro w'
        go_simp
        with_reducible rfl
      rotate_left
      · simp only [Act.put, List.setIfInBounds_toArray, List.set_cons_zero, List.set_cons_succ, i64_w, i32_w]
        rfl
      refine pure_ (i := 1) (N := some 84) (v := ?_) (a' := ?_) #[true, true, false, false, false, false, false, false, false, false, false, false, false, false, false, false] rfl rfl (by kernel_rfl) (fun _ _ _ h => h) (Or.inl ⟨by rfl, ?_⟩) ?_ ?_
      rotate_left
      · intro w'
        go_simp
        with_reducible rfl
      rotate_left
      · simp only [Act.put, List.setIfInBounds_toArray, List.set_cons_zero, List.set_cons_succ, i64_w, i32_w]
        rfl
      refine pure_ (i := 2) (N := some 85) (v := ?_) (a' := ?_) #[true, true, true, false, false, false, false, false, false, false, false, false, false, false, false, false] rfl rfl (by kernel_rfl) (fun _ _ _ h => h) (Or.inl ⟨by rfl, ?_⟩) ?_ ?_
      rotate_left
      · intro w'
        go_simp
        with_reducible rfl
      rotate_left
      · simp only [Act.put, List.setIfInBounds_toArray, List.set_cons_zero, List.set_cons_succ, i64_w, i32_w]
        rfl
      refine pure_ (i := 3) (N := some 86) (v := undef) (a' := ?_) #[true, true, true, true, false, false, false, false, false, false, false, false, false, false, false, false] rfl rfl (by kernel_rfl) (fun _ _ _ h => h) (Or.inr ⟨by rfl, rfl⟩) ?_ ?_
      rotate_left
      · simp only [Act.put, List.setIfInBounds_toArray, List.set_cons_zero, List.set_cons_succ, i64_w, i32_w]
        rfl
      refine pure_ (i := 4) (N := some 87) (v := undef) (a' := ?_) #[true, true, true, true, true, false, false, false, false, false, false, false, false, false, false, false] rfl rfl (by kernel_rfl) (fun _ _ _ h => h) (Or.inr ⟨by rfl, rfl⟩) ?_ ?_
      rotate_left
      · simp only [Act.put, List.setIfInBounds_toArray, List.set_cons_zero, List.set_cons_succ, i64_w, i32_w]
        rfl
      refine pure_ (i := 5) (N := some 88) (v := undef) (a' := ?_) #[true, true, true, true, true, true, false, false, false, false, false, false, false, false, false, false] rfl rfl (by kernel_rfl) (fun _ _ _ h => h) (Or.inr ⟨by rfl, rfl⟩) ?_ ?_
      rotate_left
      · simp only [Act.put, List.setIfInBounds_toArray, List.set_cons_zero, List.set_cons_succ, i64_w, i32_w]
        rfl
      refine pure_ (i := 6) (N := some 89) (v := undef) (a' := ?_) #[true, true, true, true, true, true, true, false, false, false, false, false, false, false, false, false] rfl rfl (by kernel_rfl) (fun _ _ _ h => h) (Or.inr ⟨by rfl, rfl⟩) ?_ ?_
      rotate_left
      · simp only [Act.put, List.setIfInBounds_toArray, List.set_cons_zero, List.set_cons_succ, i64_w, i32_w]
        rfl
      refine pure_ (i := 7) (N := some 90) (v := undef) (a' := ?_) #[true, true, true, true, true, true, true, true, false, false, false, false, false, false, false, false] rfl rfl (by kernel_rfl) (fun _ _ _ h => h) (Or.inr ⟨by rfl, rfl⟩) ?_ ?_
      rotate_left
      · simp only [Act.put, List.setIfInBounds_toArray, List.set_cons_zero, List.set_cons_succ, i64_w, i32_w]
        rfl
      refine pure_ (i := 8) (N := some 91) (v := undef) (a' := ?_) #[true, true, true, true, true, true, true, true, true, false, false, false, false, false, false, false] rfl rfl (by kernel_rfl) (fun _ _ _ h => h) (Or.inr ⟨by rfl, rfl⟩) ?_ ?_
      rotate_left
      · simp only [Act.put, List.setIfInBounds_toArray, List.set_cons_zero, List.set_cons_succ, i64_w, i32_w]
        rfl
      refine pure_ (i := 9) (N := some 92) (v := undef) (a' := ?_) #[true, true, true, true, true, true, true, true, true, true, false, false, false, false, false, false] rfl rfl (by kernel_rfl) (fun _ _ _ h => h) (Or.inr ⟨by rfl, rfl⟩) ?_ ?_
      rotate_left
      · simp only [Act.put, List.setIfInBounds_toArray, List.set_cons_zero, List.set_cons_succ, i64_w, i32_w]
        rfl
      refine pure_ (i := 10) (N := some 93) (v := undef) (a' := ?_) #[true, true, true, true, true, true, true, true, true, true, true, false, false, false, false, false] rfl rfl (by kernel_rfl) (fun _ _ _ h => h) (Or.inr ⟨by rfl, rfl⟩) ?_ ?_
      rotate_left
      · simp only [Act.put, List.setIfInBounds_toArray, List.set_cons_zero, List.set_cons_succ, i64_w, i32_w]
        rfl
      refine pure_ (i := 11) (N := some 94) (v := undef) (a' := ?_) #[true, true, true, true, true, true, true, true, true, true, true, true, false, false, false, false] rfl rfl (by kernel_rfl) (fun _ _ _ h => h) (Or.inr ⟨by rfl, rfl⟩) ?_ ?_
      rotate_left
      · simp only [Act.put, List.setIfInBounds_toArray, List.set_cons_zero, List.set_cons_succ, i64_w, i32_w]
        rfl
      refine pure_ (i := 12) (N := some 95) (v := undef) (a' := ?_) #[true, true, true, true, true, true, true, true, true, true, true, true, true, false, false, false] rfl rfl (by kernel_rfl) (fun _ _ _ h => h) (Or.inr ⟨by rfl, rfl⟩) ?_ ?_
      rotate_left
      · simp only [Act.put, List.setIfInBounds_toArray, List.set_cons_zero, List.set_cons_succ, i64_w, i32_w]
        rfl
      refine pure_ (i := 13) (N := some 96) (v := undef) (a' := ?_) #[true, true, true, true, true, true, true, true, true, true, true, true, true, true, false, false] rfl rfl (by kernel_rfl) (fun _ _ _ h => h) (Or.inr ⟨by rfl, rfl⟩) ?_ ?_
      rotate_left
      · simp only [Act.put, List.setIfInBounds_toArray, List.set_cons_zero, List.set_cons_succ, i64_w, i32_w]
        rfl
      refine pure_ (i := 14) (N := some 97) (v := ?_) (a' := ?_) #[true, true, true, true, true, true, true, true, true, true, true, true, true, true, true, false] rfl rfl (by kernel_rfl) (fun _ _ _ h => h) (Or.inl ⟨by rfl, ?_⟩) ?_ ?_
      rotate_left
      · intro w'
        go_simp
        with_reducible rfl
      rotate_left
      · simp only [Act.put, List.setIfInBounds_toArray, List.set_cons_zero, List.set_cons_succ, i64_w, i32_w]
        rfl
      refine pure_ (i := 15) (N := some 6) (v := ?_) (a' := ?_) #[true, true, true, true, true, true, true, true, true, true, true, true, true, true, true, true] rfl rfl (by kernel_rfl) (fun _ _ _ h => h) (Or.inl ⟨by rfl, ?_⟩) ?_ ?_
      rotate_left
      · intro w'
        go_simp
        with_reducible rfl
      rotate_left
      · simp only [Act.put, List.setIfInBounds_toArray, List.set_cons_zero, List.set_cons_succ, i64_w, i32_w]
        rfl
      refine done_ (by kernel_rfl) ?_
      go_wp2_with fail
      go_ret
      exact ⟨rfl, (HB2.out.trans (HBd2.out.mono HB2.out.size)).drew⟩
end Go.Proofs.YtfddhipdedcacaaDoor
