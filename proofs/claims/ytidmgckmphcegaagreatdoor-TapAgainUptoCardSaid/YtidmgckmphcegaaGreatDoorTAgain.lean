/-
  TapAgain, walked: lines of frames that may be, assembled and heard in any pieces, are told again.
-/
import Derived.Test.YtidmgckmphcegaaGreatDoorTHeard
import Derived.Test.YtidmgckmphcegaaGreatDoorTRows
import Derived.Test.YtidmgckmphcegaaGreatDoorTCopied
import Derived.Test.YtidmgckmphcegaaGreatDoorMD
import Derived.Test.YtidmgckmphcegaaGreatDoorWMore
namespace Go.Proofs.YtidmgckmphcegaaGreatDoor
open Go.RowKit Go.Joins Go.Deep Go.ChangeShapes Go.WideShapes Go.Proofs.YtidmgckmphcegaaGreatDoorW.PrintWords Go.Proofs.YtidmgckmphcegaaGreatDoorW.PrintLast Go.Proofs.YtidmgckmphcegaaGreatDoorW.PrintMore Go.Proofs.YtidmgckmphcegaaGreatDoor.Px
set_option linter.unusedVariables false
set_option linter.unusedSimpArgs false
attribute [local go_sem] max2_int min2_int max_two min_two
/-- Where the payloads of a list of frames lie. -/
def PayB (w : World) (A : Option Addr) (n : Nat) (fs : List Fr) : Prop := ∀ j, j < n → ∃ ad A' c', A = some ad ∧ w.cell? ⟨(ad.add (j * 6)).block, (ad.add (j * 6)).off + 5, none⟩ = some (.slice A' (rd_T28 fs j).f1.length c') ∧ Bs w A' (rd_T28 fs j).f1.length c' (rd_T28 fs j).f1
theorem PayB.next {w w' : World} {A : Option Addr} {n : Nat} {fs : List Fr} (h : PayB w A n fs) (hb : Below w.heap.size w w') : PayB w' A n fs := fun j hj => by
  obtain ⟨ad, A', c', e, h1, h2⟩ := h j hj
  exact ⟨ad, A', c', e, keepA hb h1, h2.next hb⟩
section
variable {H : Type} {enc : TypeId × Value → H} {w : World} {base : Nat} {held : Bool}

set_option maxRecDepth 100000 in
theorem open_frB {n : Nat} {cs : List Value} {y : DataW H × List MemPlace} (hl : cs.length = 6) (hf : DataW.trod enc Tryz.prog w base (fun _ => true) held n 28 cs = some y) :
    ∃ p : Fr, (FrIn p ∧ kFr.K w p cs ∧ p.f1.length + 1 ≤ Rows.uptoBulk y.1) ∧ ∃ A c, cs[5]? = some (.slice A p.f1.length c) ∧ Bs w A p.f1.length c p.f1 := by
  match cs, hl with
  | [c0, c1, c2, c3, c4, c5], _ =>
    obtain ⟨y0, y1, n, hx, _, k0, k1⟩ := trod_struct2 Tryz.underlying28 hf
    simp [cells_hd, cells_bs] at k0 k1
    obtain ⟨ver, ty, fl, st, ln, rfl, rfl, rfl, rfl, rfl, hok, hds⟩ := open_hd5 k0
    obtain ⟨A, k, c, xs, rfl, hB, hdb⟩ := open_bsU k1
    obtain rfl := hB.len
    refine ⟨⟨⟨ver, ty, fl, st, ln⟩, xs⟩, ⟨⟨⟨hok.ver0, hok.ver1, hok.ty0, hok.ty1, hok.fl0, hok.fl1, hok.st0, hok.st1, hok.ln0, hok.ln1⟩, hB.byt⟩, k28_mk w ⟨⟨ver, ty, fl, st, ln⟩, xs⟩ hB.cap hB.C, ?_⟩, A, c, rfl, hB⟩
    have hd : y.1 = .agg [y0.1, y1.1] := congrArg (·.1) hx
    rw [hd]
    simp only [Rows.uptoBulk, Rows.uptoBulkAll]
    show xs.length + 1 ≤ _
    omega
set_option maxRecDepth 100000 in
theorem open_framesB {r : Reach} {b0 : Nat} {v : Value} {d : DataW H} {p : List MemPlace} (hv : Value.okWide Tryz.prog w r b0 51 v) (h : DataW.Trod enc Tryz.prog w base (fun _ => true) held 51 v d p) :
    ∃ A n c fs, v = .slice A n c ∧ kFr.C w A n fs ∧ PayB w A n fs ∧ (∀ q ∈ fs, FrIn q) ∧ (fs.map fun q => q.f1.length).sum + n ≤ Rows.uptoBulk d := by
  obtain ⟨a, len, cap, rfl⟩ := okWide_slice Tryz.underlying51 hv
  obtain ⟨fuel, hf⟩ := h
  rcases Deep.open_slice Tryz.underlying51 hf with ⟨hcs, _⟩ | ⟨x, l, c, m, n, D, Pl, hcs, _, hl, hm, hmm, hx, hr⟩
  · simp [Value.cells] at hcs
    obtain ⟨rfl, rfl, rfl⟩ := hcs
    exact ⟨none, 0, 0, [], rfl, Kd.C_nil _ _, (fun j hj => absurd hj (by omega)), (fun q hq => by cases hq), by simp⟩
  · simp [Value.cells] at hcs
    obtain ⟨rfl, rfl, rfl⟩ := hcs
    simp only [if_true] at hmm
    have each : ∀ i, i < len → ∃ q : Fr, FrIn q ∧ q.f1.length + 1 ≤ Rows.uptoBulk (D i) ∧ ∃ cs, cs.length = 6 ∧ kFr.K w q cs ∧ (∀ j u, cs[j]? = some u → w.cell? (x.add (i * 6 + j)) = some u) ∧ ∃ A c, cs[5]? = some (.slice A q.f1.length c) ∧ Bs w A q.f1.length c q.f1 := fun i hi => by
      obtain ⟨cs, h1, h2⟩ := hr i (by omega)
      rw [cells_fr] at h1
      obtain ⟨_, h3, h4⟩ := World.cells?_some h1
      obtain ⟨q, ⟨q1, q2, q3⟩, A, c, q4, q5⟩ := open_frB h3 h2
      refine ⟨q, q1, q3, cs, h3, q2, fun j u hu => ?_, A, c, q4, q5⟩
      have hj : j < 6 := by have := (List.getElem?_eq_some_iff.1 hu).1; omega
      rw [← Deep.add_add, h4 j hj, hu]
    haveI : Inhabited Fr := ⟨z28⟩
    obtain ⟨F, hF⟩ := Deep.choose_lt each
    have hg : ∀ j q, ((List.range len).map F)[j]? = some q → j < len ∧ q = F j := fun j q hq => by
      simp only [List.getElem?_map] at hq
      obtain ⟨i, hi, rfl⟩ := Option.map_eq_some_iff.1 hq
      obtain ⟨hi1, hi2⟩ := List.getElem?_eq_some_iff.1 hi
      simp at hi1 hi2
      exact ⟨hi1, by rw [← hi2]⟩
    refine ⟨some x, len, cap, (List.range len).map F, rfl, ⟨by simp, by unfold maxLen at hm; omega, fun _ => ⟨x, rfl, fun j q hq => ?_⟩⟩, fun j hj => ?_, fun q hq => ?_, ?_⟩
    · obtain ⟨hj, rfl⟩ := hg j q hq
      obtain ⟨_, _, cs, c1, c2, c3, _⟩ := hF j hj
      exact ⟨cs, c1, c2, c3⟩
    · obtain ⟨_, _, cs, c1, c2, c3, A', c', c4, c5⟩ := hF j hj
      have e : rd_T28 ((List.range len).map F) j = F j := by
        unfold rd_T28
        rw [Int.toNat_natCast, List.getD_eq_getElem?_getD]; simp [hj]
      rw [e]
      exact ⟨x, A', c', rfl, by rw [← add_field _ _ 5 (by omega)]; exact c3 5 _ c4, c5⟩
    · obtain ⟨i, hi, rfl⟩ := List.mem_map.1 hq
      exact (hF i (List.mem_range.1 hi)).1
    · have hb := bulk_range (H := H) len D (fun i => (F i).f1.length) (fun i hi => (hF i hi).2.1)
      rw [List.map_map]
      have hd : d = .slice ((List.range len).map D) ((List.range (m - len)).map fun j => D (len + j)) := congrArg (·.1) hx
      subst hd
      simp only [Rows.uptoBulk]
      have he : ((List.range len).map ((fun q : Fr => q.f1.length) ∘ F)) = (List.range len).map fun i => (F i).f1.length := rfl
      rw [he]
      omega
end
theorem le_sumN {x : Nat} : ∀ {l : List Nat}, x ∈ l → x ≤ l.sum
  | y :: l, h => by
    rw [List.sum_cons]
    rcases List.mem_cons.1 h with rfl | h
    · omega
    · have := le_sumN h; omega
/-- May this frame be, and is its payload as long as its header says? -/
def mayF (most : Int) (p : Fr) : Bool := decide ((p.f1.length : Int) = szF p.f0.f1 p.f0.f4) && decide (chk p.f0.f0 p.f0.f1 p.f0.f2 p.f0.f3 p.f0.f4 most = 0)
def mays (most : Int) (fs : List Fr) : List Fr := fs.filter (mayF most)
theorem mays_fok {most : Int} {fs : List Fr} (h : ∀ q ∈ fs, FrIn q) : ∀ p ∈ mays most fs, FOk most p := fun p hp => by
  obtain ⟨h1, h2⟩ := List.mem_filter.1 hp
  unfold mayF at h2
  simp only [Bool.and_eq_true, decide_eq_true_eq] at h2
  exact ⟨(h p h1).hd, h2.1, h2.2, (h p h1).byt⟩
theorem mays_snoc (most : Int) (fs : List Fr) (p : Fr) : mays most (fs ++ [p]) = mays most fs ++ if mayF most p = true then [p] else [] := by
  unfold mays
  rw [List.filter_append]
  by_cases h : mayF most p = true
  · rw [if_pos h, List.filter_cons_of_pos h]; rfl
  · rw [if_neg h, List.filter_cons_of_neg h]; rfl
theorem flat_mays (most : Int) : ∀ fs : List Fr, (flat (mays most fs)).length ≤ 12 * fs.length + (fs.map fun q => q.f1.length).sum
  | [] => by simp [mays, flat]
  | p :: fs => by
    have ih := flat_mays most fs
    have e : mays most (p :: fs) = (if mayF most p = true then [p] else []) ++ mays most fs := by
      unfold mays
      by_cases h : mayF most p = true
      · rw [if_pos h, List.filter_cons_of_pos h]; rfl
      · rw [if_neg h, List.filter_cons_of_neg h]; rfl
    rw [e, flat_app, List.length_append, List.map_cons, List.sum_cons, List.length_cons]
    split
    · rw [flat_one, encF_len]; omega
    · rw [flat_nil, List.length_nil]; omega
theorem sum_take_le (fs : List Fr) (k : Nat) : ((fs.take k).map fun q => q.f1.length).sum ≤ (fs.map fun q => q.f1.length).sum := by
  have h : (fs.map fun q => q.f1.length).sum = ((fs.take k).map fun q => q.f1.length).sum + ((fs.drop k).map fun q => q.f1.length).sum := by
    rw [← List.sum_append, ← List.map_append, List.take_append_drop]
  omega
/-- What lies of the pieces so far: slices of the list of bytes. -/
structure PSt (w4 wr : World) (u : Value) (bs : List Int) (a : Nat) (vs : List Value) (ps : List (List Int)) : Prop where
  sl : SL wr w4.heap.size u vs
  bel : Below w4.heap.size w4 wr
  flat : ps.flatten = bs.take a
  cnt : vs.length = ps.length
  le : ps.length ≤ a
  each : ∀ (j : Nat), j < ps.length → ∃ A' c', vs[j]? = some (.slice A' (ps.getD j []).length c') ∧ Bs w4 A' (ps.getD j []).length c' (ps.getD j [])
theorem sl_bs {W : World} {b o c n : Nat} {xs : List Int} (h : Bs W (some ⟨b, o, none⟩) n c xs) {a m : Nat} (hj : a + m ≤ n) (hm : 0 < m) : Bs W (some ⟨b, o + a, none⟩) m (c - a) ((xs.drop a).take m) := by
  have hl := h.len
  have hc := h.cap
  obtain ⟨b', o', e, hr⟩ := h.rd (by omega)
  injection e with e
  injection e with e1 e2
  subst e1 e2
  refine ⟨by rw [List.length_take, List.length_drop]; omega, by omega, by have := h.max; omega, fun y hy => h.byt y (List.mem_of_mem_drop (List.mem_of_mem_take hy)), fun e => (by cases e), fun _ => ⟨b, o + a, rfl, fun i hi => ?_⟩⟩
  rw [Nat.add_assoc, hr (a + i) (by omega)]
  simp [List.getD_eq_getElem?_getD, hi]
theorem PSt.next {w4 wr w1 : World} {u v1 : Value} {b o c n : Nat} {bs : List Int} {a m : Nat} {vs : List Value} {ps : List (List Int)} (h : PSt w4 wr u bs a vs ps) (hB : Bs w4 (some ⟨b, o, none⟩) n c bs) (hj : a + m ≤ n) (hm : 0 < m) (hs : SL w1 w4.heap.size v1 (vs ++ [.slice (some ⟨b, o + a, none⟩) m (c - a)])) (hb : Below w4.heap.size w4 w1) :
    PSt w4 w1 v1 bs (a + m) (vs ++ [.slice (some ⟨b, o + a, none⟩) m (c - a)]) (ps ++ [(bs.drop a).take m]) := by
  have hq := sl_bs hB hj hm
  have hl := hq.len
  refine ⟨hs, hb, ?_, by rw [List.length_append, List.length_append, h.cnt]; rfl, by rw [List.length_append]; have := h.le; simp; omega, fun j hj' => ?_⟩
  · rw [List.flatten_append, h.flat, List.take_add]; simp
  · by_cases e : j < ps.length
    · obtain ⟨A', c', a1, a2⟩ := h.each j e
      have e1 : (ps ++ [(bs.drop a).take m]).getD j [] = ps.getD j [] := by rw [List.getD_eq_getElem?_getD, List.getD_eq_getElem?_getD, List.getElem?_append_left e]
      rw [e1]
      exact ⟨A', c', by rw [List.getElem?_append_left (by rw [h.cnt]; exact e)]; exact a1, a2⟩
    · obtain rfl : j = ps.length := by rw [List.length_append] at hj'; simp at hj'; omega
      have e1 : (ps ++ [(bs.drop a).take m]).getD ps.length [] = (bs.drop a).take m := by rw [List.getD_eq_getElem?_getD, List.getElem?_append_right (Nat.le_refl _)]; simp
      rw [e1, hl]
      exact ⟨_, _, by rw [List.getElem?_append_right (by rw [h.cnt]; exact Nat.le_refl _), h.cnt]; simp, hq⟩
set_option maxRecDepth 100000 in
set_option maxHeartbeats 4000000 in
theorem tapAgain_walk {sa : Nat → Addr} {w : World} (hE : TE sa w) (most : Int) (A : Option Addr) (n c : Nat) (fs : List Fr) (hC : kFr.C w A n fs) (hP : PayB w A n fs) (hI : ∀ q ∈ fs, FrIn q) (hs : (fs.map fun q => q.f1.length).sum + n ≤ 1100000) (size : Int) (hsi : size ≤ 9223372036854775807) :
    Calls Tryz.prog 9 #[.int .i64 most, .slice A n c, .int .i64 size] w fun e w' => e = .returned (.bool true) ∧ Below w.heap.size w w' := by
  obtain rfl := Kd.C_len hC
  have HE := Lib.hid hE
  have HC := Lib.hid hC
  have HP := Lib.hid hP
  have HI := Lib.hid hI
  have hnl : fs.length ≤ 1100000 := by omega
  have HS := Lib.hid hs
  clear hE hC hP hI hs
  go_enter Tryz.func9, Tryz.ntmps9
  go_wp2_with fail
  refine (wakes_any HE.out).mono ?_
  rintro e w1 ⟨rfl, hb1⟩
  have HB1 := Lib.hid hb1
  clear hb1
  go_wp2_with fail
  go_loopw [7, 8] (fun s i wr => ∃ k : Nat, k ≤ fs.length ∧ i = .int .i64 k ∧ s = .string ⟨(tellL (mays most (fs.take k))).toArray⟩ ∧ Hid (Below w.heap.size w wr)) (fun _ i _ => fs.length - (intOf i).toNat)
  case atStart => exact ⟨0, by omega, rfl, by rw [List.take_zero]; rfl, HB1⟩
  case round =>
    obtain ⟨k, hk, rfl, rfl, HBr⟩ := hrel
    by_cases hlt : k < fs.length
    · have hd2 : decide ((k : Int) < fs.length) = true := by simp; omega
      have hk0 : (0 : Int) ≤ (k : Int) := by omega
      have hk1 : (k : Int) < (fs.length : Int) := by omega
      have HCr := Lib.hid (Kd.C_below HC.out HBr.out)
      obtain ⟨a, A5, c5, rfl, a0, a1, a2, a3, a4, a5, al, _⟩ := at_T28 HCr.out k hk0 hk1
      obtain ⟨ad, A6, c6, e6, b5, hB6⟩ := (HP.out.next HBr.out) k hlt
      injection e6 with e6
      subst e6
      obtain ⟨p, hp⟩ : ∃ p, p = rd_T28 fs k := ⟨_, rfl⟩
      rw [← hp] at a0 a1 a2 a3 a4 a5 al b5 hB6
      simp only [Int.toNat_natCast] at a0 a1 a2 a3 a4 a5
      have e56 := a5.symm.trans b5
      simp only [Option.some.injEq, Value.slice.injEq, true_and] at e56
      obtain ⟨rfl, rfl⟩ := e56
      have hpj : p = fs[k] := by
        rw [hp]; unfold rd_T28
        rw [Int.toNat_natCast, List.getD_eq_getElem?_getD, List.getElem?_eq_getElem hlt]
        rfl
      have hpi := HI.out p (by rw [hpj]; exact List.getElem_mem hlt)
      have hts : fs.take (k + 1) = fs.take k ++ [p] := by rw [hpj]; exact List.take_succ_eq_append_getElem hlt
      have hsn := mays_snoc most (fs.take k) p
      rw [← hts] at hsn
      have hfl := flat_mays most (fs.take (k + 1))
      have hsl := sum_take_le fs (k + 1)
      have hc2 : (fs.take (k + 1)).length ≤ fs.length := by rw [List.length_take]; omega
      have hok : ∀ q ∈ mays most (fs.take (k + 1)), FOk most q := mays_fok fun q hq => HI.out q (List.mem_of_mem_take hq)
      have htl := tellL_len (mays most (fs.take (k + 1))) hok
      have hfl0 := flat_mays most (fs.take k)
      have hsl0 := sum_take_le fs k
      have hc20 : (fs.take k).length ≤ fs.length := by rw [List.length_take]; omega
      have htl0 := tellL_len (mays most (fs.take k)) (mays_fok fun q hq => HI.out q (List.mem_of_mem_take hq))
      have hSS := HS.out
      have hHd := hpi.hd
      obtain ⟨ver, hver⟩ : ∃ ver : Nat, p.f0.f0 = ver := ⟨p.f0.f0.toNat, by have := hHd.v0; omega⟩
      obtain ⟨ty, htyn⟩ : ∃ ty : Nat, p.f0.f1 = ty := ⟨p.f0.f1.toNat, by have := hHd.t0; omega⟩
      obtain ⟨fl, hfln⟩ : ∃ fl : Nat, p.f0.f2 = fl := ⟨p.f0.f2.toNat, by have := hHd.f0; omega⟩
      obtain ⟨st, hstn⟩ : ∃ st : Nat, p.f0.f3 = st := ⟨p.f0.f3.toNat, by have := hHd.s0; omega⟩
      obtain ⟨ln, hlnn⟩ : ∃ ln : Nat, p.f0.f4 = ln := ⟨p.f0.f4.toNat, by have := hHd.l0; omega⟩
      obtain ⟨pd, hpd⟩ : ∃ pd, pd = p.f1 := ⟨_, rfl⟩
      have hline : lineF p = lineB ⟨ver, ty, fl, st, ln⟩ pd := by unfold lineF hdF; rw [hver, htyn, hfln, hstn, hlnn, hpd]; rfl
      have hmay : mayF most p = (decide ((pd.length : Int) = szF ty ln) && decide (chk ver ty fl st ln most = 0)) := by unfold mayF; rw [hver, htyn, hfln, hstn, hlnn, hpd]
      have d0 : ver ≤ 255 := by have := hHd.v1; omega
      have d1 : ty ≤ 255 := by have := hHd.t1; omega
      have d2 : fl ≤ 65535 := by have := hHd.f1; omega
      have d3 : st ≤ 4294967295 := by have := hHd.s1; omega
      have d4 : ln ≤ 4294967295 := by have := hHd.l1; omega
      rw [hver] at a0
      rw [htyn] at a1
      rw [hfln] at a2
      rw [hstn] at a3
      rw [hlnn] at a4
      rw [← hpd] at a5 al hB6
      have hpl : pd.length ≤ 1100000 := by
        have h1 : p.f1.length ≤ (fs.map fun q => q.f1.length).sum := le_sumN (List.mem_map.2 ⟨p, by rw [hpj]; exact List.getElem_mem hlt, rfl⟩)
        rw [← hpd] at h1
        omega
      obtain ⟨t1, ht1⟩ : ∃ t1 : ByteArray, t1 = ⟨(tellL (mays most (fs.take k))).toArray⟩ := ⟨_, rfl⟩
      have hz1 : t1.size = (tellL (mays most (fs.take k))).length := by rw [ht1]; show (tellL (mays most (fs.take k))).toArray.size = _; rw [List.size_toArray]
      have hz1' : t1.size ≤ 600000000 := by omega
      have HB6 := Lib.hid hB6
      have HTS := Lib.hid hts
      have HSN := Lib.hid hsn
      have HMAY := Lib.hid hmay
      have HLI := Lib.hid hline
      have HT1 := Lib.hid ht1
      have c0' := a0
      have c1' := a1
      have c2' := a2
      have c3' := a3
      have c4' := a4
      have HA0 := Lib.hid a0
      have HA1 := Lib.hid a1
      have HA2 := Lib.hid a2
      have HA3 := Lib.hid a3
      have HA4 := Lib.hid a4
      rw [← ht1]
      clear hp hpj hpi hts hsn hfl hsl hc2 hok htl hfl0 hsl0 hc20 htl0 hHd hver htyn hfln hstn hlnn hpd hline hmay b5 hB6 ht1 hz1 c0' c1' c2' c3' c4'
      go_wp2_with fail
      refine (copied_any ver ty fl st ln HB6.out (by omega)).mono ?_
      rintro e w2 ⟨A2, c2, rfl, hq2, hb2⟩
      have HB2 := Lib.hid (belowT HBr.out hb2)
      have HB02 := Lib.hid hb2
      have HQ2 := Lib.hid hq2
      clear hb2 hq2
      go_wp2_with fail
      have hE2 := HE.out.below HB2.out
      refine (line_any ver ty fl st ln A2 pd.length c2 pd w2 hE2.good hE2.pow hE2.wrd HQ2.out.toRd d0 d1 d2 d3 d4).mono ?_
      rintro e w3 ⟨rfl, hb3⟩
      have HB3 := Lib.hid (belowT HB2.out hb3)
      have HB03 := Lib.hid (belowT HB02.out hb3)
      clear hb3 hE2 HB2 HB02 HQ2 a0 a1 a2 a3 a4 a5
      by_cases hsz : (pd.length : Int) = szF ty ln
      · rw [if_pos hsz]
        have HSZ := Lib.hid hsz
        clear hsz
        have a0 := keepA HB03.out HA0.out
        have a1 := keepA HB03.out HA1.out
        have a2 := keepA HB03.out HA2.out
        have a3 := keepA HB03.out HA3.out
        have a4 := keepA HB03.out HA4.out
        obtain ⟨t2, ht2⟩ : ∃ t2 : ByteArray, t2 = ⟨(lineB ⟨ver, ty, fl, st, ln⟩ pd).toArray⟩ := ⟨_, rfl⟩
        have hz2 : t2.size ≤ 10000000 := by
          have h1 := text_len ver ty fl st ln d0 d1 d2 d3 d4
          have h2 := told_len pd
          rw [ht2]
          show (lineB ⟨ver, ty, fl, st, ln⟩ pd).toArray.size ≤ _
          rw [List.size_toArray]
          show (if ty = 0 then textB ver ty fl st ln ++ 32 :: told pd else textB ver ty fl st ln).length ≤ _
          split
          · rw [List.length_append, List.length_cons]; omega
          · omega
        have HT2 := Lib.hid ht2
        rw [← ht2]
        clear ht2
        go_wp2_with fail
        refine (check_any (HE.out.below HB3.out).good (HE.out.below HB3.out).law ver ty fl st ln most (by omega) (by omega) (by omega) (by omega)).mono ?_
        rintro e w4 ⟨rfl, hb4⟩
        have HB4 := Lib.hid (belowT HB3.out hb4)
        clear hb4 a0 a1 a2 a3 a4
        by_cases hck : chk ver ty fl st ln most = 0
        · have hm : mayF most p = true := by rw [HMAY.out, decide_eq_true HSZ.out, decide_eq_true hck]; rfl
          have he : errv sa (chk ver ty fl st ln most) = .nilIface := by rw [hck]; rfl
          rw [he]
          have y1 : ¬ 9223372036854775807 < t2.size + 1 := by omega
          have y2 : ¬ 9223372036854775807 < t1.size + (t2.size + 1) := by omega
          have HTT : Hid (t1 ++ (t2 ++ ⟨#[10]⟩) = (⟨(tellL (mays most (fs.take (k + 1)))).toArray⟩ : ByteArray)) := by
            rw [HSN.out, if_pos hm, tellL_snoc, HLI.out, HT1.out, HT2.out]
            apply ByteArray.ext
            simp [ByteArray.data_append]
          clear he hm hck
          go_wp2_with fail
          go_roundw
          case rel => exact ⟨k + 1, by omega, by go_num, by rw [HTT.out], HB4⟩
          case measure => simp [intOf]; omega
        · have hm : ¬ mayF most p = true := by rw [HMAY.out, decide_eq_false hck, Bool.and_false]; simp
          have he : errv sa (chk ver ty fl st ln most) = sv (sa (chk ver ty fl st ln most)) := by unfold errv; rw [if_neg hck]
          rw [he]
          have HTT : Hid (t1 = (⟨(tellL (mays most (fs.take (k + 1)))).toArray⟩ : ByteArray)) := by
            rw [HSN.out, if_neg hm, List.append_nil, HT1.out]; exact rfl
          clear he hm hck
          go_wp2_with fail
          go_roundw
          case rel => exact ⟨k + 1, by omega, by go_num, by rw [HTT.out], HB4⟩
          case measure => simp [intOf]; omega
      · rw [if_neg hsz]
        have hm : ¬ mayF most p = true := by rw [HMAY.out, decide_eq_false hsz]; simp
        have HTT : Hid (t1 = (⟨(tellL (mays most (fs.take (k + 1)))).toArray⟩ : ByteArray)) := by
          rw [HSN.out, if_neg hm, List.append_nil, HT1.out]; exact rfl
        clear hm hsz
        go_wp2_with fail
        go_roundw
        case rel => exact ⟨k + 1, by omega, by go_num, by rw [HTT.out], HB3⟩
        case measure => simp [intOf]; omega
    · obtain rfl : k = fs.length := by omega
      have hd2 : decide ((fs.length : Int) < (fs.length : Int)) = false := by simp
      have ht : fs.take fs.length = fs := List.take_length
      rw [ht]
      have hok : ∀ q ∈ mays most fs, FOk most q := mays_fok HI.out
      have hfl := flat_mays most fs
      have htl := tellL_len (mays most fs) hok
      have hga := gasm_lines (mays most fs) hok
      have hfb := flat_byt hok
      have hta := tellAll_flat (mays most fs) hok
      have hcc : codeX most (flat (mays most fs)) = 0 := by unfold codeX; rw [cut_flat_all _ hok]
      obtain ⟨bs, hbs⟩ : ∃ bs, bs = flat (mays most fs) := ⟨_, rfl⟩
      rw [← hbs] at hfl htl hga hfb hta hcc
      obtain ⟨sl, hsl⟩ : ∃ sl : ByteArray, sl = ⟨(tellL (mays most fs)).toArray⟩ := ⟨_, rfl⟩
      have hsd : sl.data.toList = tellL (mays most fs) := by rw [hsl]
      have hSS := HS.out
      have hss : sl.size < 4294967281 := by
        have : sl.size = sl.data.toList.length := by simp
        rw [this, hsd]; omega
      have hbl : bs.length ≤ 20000000 := by omega
      rw [← hsl]
      have HGA := Lib.hid hga
      have HFB := Lib.hid hfb
      have HTA := Lib.hid hta
      have HCC := Lib.hid hcc
      have HSL := Lib.hid hsl
      have HSD := Lib.hid hsd
      clear ht hok hfl htl hga hfb hta hcc hbs hsl hsd
      go_wp2_with fail
      have hEr := HE.out.below HBr.out
      refine (asm_any sl hss wr hEr.good hEr.pow hEr.wrd hEr.ner hEr.mxl).mono ?_
      intro e w4 ha4
      unfold AsmTo at ha4
      rw [HSD.out, HGA.out] at ha4
      obtain ⟨v4, rfl, ho4, hb4⟩ := ha4
      obtain ⟨A4, c4, rfl, hq4⟩ := Own.bs ho4 HFB.out
      have HB4 := Lib.hid (belowT HBr.out hb4)
      have HQ4 := Lib.hid hq4
      obtain ⟨b, o, hA⟩ : ∃ b o, 0 < bs.length → A4 = some ⟨b, o, none⟩ := by
        by_cases h0 : 0 < bs.length
        · obtain ⟨b, o, e, _⟩ := hq4.rd h0
          exact ⟨b, o, fun _ => e⟩
        · exact ⟨0, 0, fun h => absurd h h0⟩
      have hcap := hq4.cap
      clear hb4 ho4 hq4 hEr HBr
      go_upto_if 59 with fail
      go_cut [2] (fun s wx => Hid ((∃ sn : Nat, s = .int .i64 sn ∧ 1 ≤ sn ∧ sn ≤ 9223372036854775807) ∧ w4 = wx))
      case first =>
        by_cases hs1 : size < 1
        · have hd3 : decide (size < 1) = true := by simp [hs1]
          go_wp2_with fail
          go_meet
          exact Lib.hid ⟨⟨1, rfl, by omega, by omega⟩, rfl⟩
        · have hd3 : decide (size < 1) = false := by simp; omega
          obtain ⟨sn, rfl⟩ : ∃ sn : Nat, size = sn := ⟨size.toNat, by omega⟩
          go_wp2_with fail
          go_meet
          exact Lib.hid ⟨⟨sn, rfl, by omega, by omega⟩, rfl⟩
      case rest =>
        obtain ⟨⟨sn, rfl, h1n, h2n⟩, rfl⟩ := hcut.out
        clear hcut
        go_wp2_with fail
        go_loopw [13, 14] (fun u at_ wr => ∃ (a : Nat) (vs : List Value) (qs : List (List Int)), a ≤ bs.length ∧ at_ = .int .i64 a ∧ Hid (PSt w4 wr u bs a vs qs)) (fun _ at_ _ => bs.length - (intOf at_).toNat)
        case atStart => exact ⟨0, [], [], by omega, rfl, Lib.hid ⟨SL_nil _ _, Below.refl _ _, by simp, rfl, by simp, fun j hj => absurd hj (by simp)⟩⟩
        case round =>
          obtain ⟨a, vs, qs, ha, rfl, HQ⟩ := hrel
          by_cases hlt : a < bs.length
          · obtain rfl := hA (by omega)
            have hlt' : (a : Int) < bs.length := by omega
            have hck : ¬ c4 = a := by omega
            obtain ⟨q, hq⟩ : ∃ q : Nat, bs.length = a + q := ⟨bs.length - a, by omega⟩
            have hw1 : (bs.length : Int) - a = q := by omega
            have hq1 : 1 ≤ q := by omega
            have hvl : vs.length ≤ 1099511627776 := by have := HQ.out.cnt; have := HQ.out.le; omega
            have HQQ := Lib.hid hq
            clear hq
            have hw0 : w4.heap.size ≤ wr.heap.size := HQ.out.bel.size
            by_cases hm : sn ≤ q
            · have hx1 : ((sn : Int) ≤ (q : Int)) := by omega
              have hx3 : ¬ ((q : Int) < (sn : Int)) := by omega
              have hx2 : (a : Int) + sn ≤ bs.length := by have := HQQ.out; omega
              go_wp2_with (at_builtin; go_loud (refine sl_append (w0 := w4) rfl _ _ rfl u13 vs (.slice (some ⟨b, o + a, none⟩) sn (c4 - a)) rfl rfl rfl HQ.out.sl HQ.out.bel hvl ?_; intro v5 w5 h5 hb5 hg5; have HSL5 := Lib.hid h5; have HBr5 := Lib.hid hb5; clear h5 hb5 hg5))
              go_roundw
              case rel => exact ⟨a + sn, _, _, by have := HQQ.out; omega, by go_num, Lib.hid (HQ.out.next HQ4.out (by have := HQQ.out; omega) (by omega) HSL5.out HBr5.out)⟩
              case measure => have := HQQ.out; simp [intOf]; omega
            · have hx3 : ((q : Int) < (sn : Int)) := by omega
              have hx2 : (a : Int) + q ≤ bs.length := by have := HQQ.out; omega
              go_wp2_with (at_builtin; go_loud (refine sl_append (w0 := w4) rfl _ _ rfl u13 vs (.slice (some ⟨b, o + a, none⟩) q (c4 - a)) rfl rfl rfl HQ.out.sl HQ.out.bel hvl ?_; intro v5 w5 h5 hb5 hg5; have HSL5 := Lib.hid h5; have HBr5 := Lib.hid hb5; clear h5 hb5 hg5))
              go_roundw
              case rel => exact ⟨a + q, _, _, by have := HQQ.out; omega, by go_num, Lib.hid (HQ.out.next HQ4.out (by have := HQQ.out; omega) (by omega) HSL5.out HBr5.out)⟩
              case measure => have := HQQ.out; simp [intOf]; omega
          · obtain rfl : a = bs.length := by omega
            have hd4 : decide ((bs.length : Int) < (bs.length : Int)) = false := by simp
            have hfl : qs.flatten = bs := by rw [HQ.out.flat, List.take_length]
            have hql := HQ.out.le
            obtain ⟨A6, c6, rfl, hp6⟩ := HQ.out.sl.pcs HQ.out.cnt (fun j hj => by
              obtain ⟨A', c', a1, a2⟩ := HQ.out.each j hj
              exact ⟨A', c', a1, a2.next HQ.out.bel⟩)
            have hsum : (qs.map List.length).sum + qs.length ≤ 100000000 := by
              rw [← List.length_flatten, hfl]; omega
            have HP6 := Lib.hid hp6
            have HFL := Lib.hid hfl
            have HSUM := Lib.hid hsum
            have HB5 := Lib.hid (belowT HB4.out HQ.out.bel)
            clear hp6 hfl hsum HQ
            by_cases hmm : most < 1 ∨ 65536 < most
            · go_wp2_with fail
              refine (heard_no (HE.out.below HB5.out).good most hmm _).mono ?_
              rintro e w6 ⟨rfl, hb6⟩
              have HB6 := Lib.hid (belowT HB5.out hb6)
              clear hb6
              rcases hmm with hmm | hmm
              · have h1 : decide (most < 1) = true := by simp [hmm]
                go_wp2_with fail
                go_ret
                exact ⟨rfl, HB6.out⟩
              · have h1 : decide (most < 1) = false := by simp; omega
                have h2 : decide (65536 < most) = true := by simp [hmm]
                go_wp2_with fail
                go_ret
                exact ⟨rfl, HB6.out⟩
            · have m1 : 1 ≤ most := by omega
              have m2 : most ≤ 65536 := by omega
              go_wp2_with fail
              refine (heard_at (HE.out.below HB5.out) most m1 m2 HP6.out HSUM.out bs HFL.out (.inl HCC.out)).mono ?_
              rintro e w6 ⟨g1, gd1, v1, b1, rfl, hh1⟩
              rw [HTA.out, ← HSL.out]
              have HB6 := Lib.hid (belowT HB5.out hh1.below)
              have hte := terr_any hh1.tap
              have hen : errX most bs b1 = .nilIface := if_pos HCC.out
              rw [hen] at hte
              have HTE := Lib.hid hte
              clear hh1 hte hen
              go_wp2_with fail
              refine HTE.out.mono ?_
              rintro e w7 ⟨rfl, rfl⟩
              go_wp2_with fail
              go_ret
              exact ⟨rfl, HB6.out⟩
end Go.Proofs.YtidmgckmphcegaaGreatDoor
