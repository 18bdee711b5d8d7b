/-
  culvertref05.Feed; law 5's fails.
-/
import Derived.Test.YtidmgckmphcegaaGreatDoorRef5
namespace Go.Proofs.YtidmgckmphcegaaGreatDoor
open Go.RowKit Go.Proofs.YtidmgckmphcegaaGreatDoorW.PrintWords Go.Proofs.YtidmgckmphcegaaGreatDoorW.PrintLast Go.Proofs.YtidmgckmphcegaaGreatDoorW.PrintMore Go.Proofs.YtidmgckmphcegaaGreatDoor.Px
set_option linter.unusedVariables false
set_option linter.unusedSimpArgs false
theorem own_ge {v u : Value} {H H' : Nat} (hat : v.ownBlock = u.ownBlock ∨ ∃ b, v.ownBlock = some b ∧ H' ≤ b) (hu : u.ownBlock = some H) (hH : H ≤ H') : ∀ k, v.ownBlock = some k → H ≤ k := fun k hk => by
  rcases hat with h | ⟨b, h, hb⟩
  · rw [hk, hu] at h; injection h with h; omega
  · rw [hk] at h; injection h with h; omega
theorem told_F {w : World} (most : Int) (A : Option Addr) (n c : Nat) (xs : List Int) (hB : Bs w A n c xs) (m1 : 1 ≤ most) (m2 : most ≤ 65536) (hn : n ≤ 1000000000) :
    Calls Tryz.prog 33 #[.agg #[.int .i64 most, .slice A n c]] w fun e w' => ∃ A9 c9, e = .returned (.agg #[.slice A9 (framesX most xs).length c9, .int .i64 (restX most xs).length, .int .i64 (whyX most xs), .int .u32 (stX most xs)]) ∧ (framesX most xs).length ≤ c9 ∧ Kd.F kFr w' (fun k => w.heap.size ≤ k) A9 (framesX most xs).length (framesX most xs) ∧ Below w.heap.size w w' :=
  (say05_any most A n c xs hB m1 m2 hn).mono fun e w' ⟨fv, he, hN, hb⟩ => by
    obtain ⟨A9, c9, rfl, hl, _⟩ := Kd.N_reads hN
    exact ⟨A9, c9, he, hl, Kd.N_F hN, hb⟩
/-- The world behind the entry of the reference's Feed. -/
theorem rf_start {w w0 : World} {most : Int} {A : Option Addr} {n c : Nat} (hw0 : w0 = (w.alloc (.cells #[.int .i64 most, .slice A n c] 65)).alloc (.cells #[.int .i64 0, .slice none 0 0] 65)) :
    Below w.heap.size w w0 ∧ w0.heap[w.heap.size]? = some (rdec most A n c) ∧ w0.heap[w.heap.size + 1]? = some (rdec 0 none 0 0) := by
  have s1 : (w.alloc (.cells #[.int .i64 most, .slice A n c] 65)).heap.size = w.heap.size + 1 := by simp
  have h1 := alloc_at w (.cells #[.int .i64 most, .slice A n c] 65)
  have h2 := alloc_at (w.alloc (.cells #[.int .i64 most, .slice A n c] 65)) (.cells #[.int .i64 0, .slice none 0 0] 65)
  rw [s1] at h2
  rw [hw0]
  exact ⟨((Below.refl _ _).alloc (Nat.le_refl _) _).alloc (by simp) _, by rw [blk_old _ (by rw [s1]; omega)]; exact h1, h2⟩
set_option maxRecDepth 100000 in
theorem rfeed_dead {w : World} (most : Int) (A : Option Addr) (n c : Nat) (xs : List Int) (hB : Bs w A n c xs) (m1 : 1 ≤ most) (m2 : most ≤ 65536) (hn : n ≤ 1000000000) (hc : codeX most xs ≠ 0) (x : Value) :
    Calls Tryz.prog 34 #[.agg #[.int .i64 most, .slice A n c], x] w fun e w' => e = .returned (.tuple #[.agg #[.int .i64 most, .slice A n c], .slice none 0 0, .int .i64 (whyX most xs)]) ∧ Below w.heap.size w w' := by
  obtain ⟨w0, hw0⟩ : ∃ w0, w0 = (w.alloc (.cells #[.int .i64 most, .slice A n c] 65)).alloc (.cells #[.int .i64 0, .slice none 0 0] 65) := ⟨_, rfl⟩
  obtain ⟨hb0, hd0, hr0⟩ := rf_start hw0
  have HB0 := Lib.hid hb0
  have HD0 := Lib.hid hd0
  have HR0 := Lib.hid hr0
  have ht := told_dead most A n c xs (hB.next hb0) m1 m2 hn hc
  have hy : ((whyX most xs : Int) != 0) = true := by unfold whyX; rw [if_neg hc]; simp; omega
  have hm0 : (most == 0) = false := by simp; omega
  clear hB hb0 hd0 hr0 hc
  go_enter Tryz.func34, Tryz.ntmps34
  go_wp2_with fail
  rw [← hw0]
  refine ht.mono ?_
  rintro e w1 ⟨A9, c9, rfl, _, _, hb1⟩
  obtain ⟨w2, hw2⟩ : ∃ w2, w2 = w1.alloc (.cells #[.slice A9 (framesX most xs).length c9, .int .i64 0, .int .i64 (whyX most xs), .int .u32 (stX most xs)] 69) := ⟨_, rfl⟩
  have hb2 : Below w0.heap.size w0 w2 := by rw [hw2]; exact hb1.alloc hb1.size _
  have hd2 := keepB hb2 HD0.out
  have hr2 := keepB hb2 HR0.out
  have ht2 : w2.heap[w1.heap.size]? = some (rtold (.slice A9 (framesX most xs).length c9) 0 (whyX most xs) (stX most xs)) := by rw [hw2]; exact alloc_at _ _
  have HB2 := Lib.hid hb2
  have HZ := Lib.hid (show w.heap.size + 2 ≤ w1.heap.size by have := hb1.size; have := (Array.getElem?_eq_some_iff.1 HR0.out).1; omega)
  have q0 : w2.cell? ⟨w.heap.size, 0, none⟩ = some (.int .i64 most) := cell_blk hd2 rfl
  have q1 : w2.cell? ⟨w.heap.size, 1, none⟩ = some (.slice A n c) := cell_blk hd2 rfl
  have r0 : w2.cell? ⟨w.heap.size + 1, 0, none⟩ = some (.int .i64 0) := cell_blk hr2 rfl
  have r1 : w2.cell? ⟨w.heap.size + 1, 1, none⟩ = some (.slice none 0 0) := cell_blk hr2 rfl
  have r2 : ∀ j, w2.frozen? ⟨w.heap.size + 1, j, none⟩ = false := fun j => free_blk hr2
  have t2 : w2.cell? ⟨w1.heap.size, 2, none⟩ = some (.int .i64 (whyX most xs)) := cell_blk ht2 rfl
  clear hb1 ht hw0 hb2 hd2 hr2 ht2
  go_wp2_with fail
  rw [← hw2]
  clear hw2
  go_region
  all_goals
    go_wp2_with fail
    refine bodyPost_ret (v := .tuple #[.agg #[.int .i64 most, .slice A n c], .slice none 0 0, .int .i64 (whyX most xs)]) ?_ rfl ⟨rfl, ?_⟩
    · simp [results, Tryz.results34, go_sem, r0, r1]
    · exact (((belowT HB0.out HB2.out).setCell (by simp) _).setCell (by simp) _).drew
theorem own_bs {W : World} {base n c : Nat} {A : Option Addr} {zs : List Int} (h : Own W base (.slice A n c) zs) (hx : ∀ x ∈ zs, 0 ≤ x ∧ x ≤ 255) : Bs W A n c zs := by
  obtain ⟨A', c', e, hq⟩ := Own.bs h hx
  injection e with e1 e2 e3
  rw [e1, e2, e3]
  exact hq
theorem own_fbs {W : World} {base n c : Nat} {A : Option Addr} {zs : List Int} (h : Own W base (.slice A n c) zs) (hx : ∀ x ∈ zs, 0 ≤ x ∧ x ≤ 255) : FBs W (fun k => base ≤ k) A n c zs := by
  obtain ⟨A', c', e, hq⟩ := Own.fbs h hx
  injection e with e1 e2 e3
  rw [e1, e2, e3]
  exact hq.mono fun k hk => (h.blk k hk.symm).1
theorem rf_frames {W : World} {ok : Nat → Prop} {most : Int} {xs ys : List Int} {A : Option Addr} {lx l9 c : Nat} (h : Kd.F kFr W ok A lx (framesX most (xs ++ ys))) (hl : lx = (framesX most (xs ++ ys)).length) (h9 : l9 = (framesX most xs).length) (hf : framesX most (xs ++ ys) = framesX most xs ++ newX most xs ys) (hc : lx ≤ c) :
    Kd.F kFr W ok (if c = l9 then A else A.map (·.add (l9 * 6))) (newX most xs ys).length (newX most xs ys) := by
  subst hl
  have h2 := Kd.F_cut (m := l9) (c := c) h (by rw [hf, h9, List.length_append]; omega) hc
  rw [hf, h9, List.drop_left] at h2
  rw [h9]
  exact h2
set_option maxRecDepth 100000 in
set_option maxHeartbeats 2000000 in
theorem rfeed_live {w : World} (most : Int) (A : Option Addr) (n c : Nat) (xs : List Int) (hB : Bs w A n c xs) (B : Option Addr) (m d : Nat) (ys : List Int) (hY : Bs w B m d ys) (m1 : 1 ≤ most) (m2 : most ≤ 65536) (hn : n + m ≤ 1000000000) (hc : codeX most xs = 0) :
    Calls Tryz.prog 34 #[.agg #[.int .i64 most, .slice A n c], .slice B m d] w fun e w' => ∃ A' c' F f, e = .returned (.tuple #[.agg #[.int .i64 most, .slice A' (n + m) c'], .slice F (newX most xs ys).length f, .int .i64 (whyX most (xs ++ ys))]) ∧ FBs w' (fun k => w.heap.size ≤ k) A' (n + m) c' (xs ++ ys) ∧ Kd.F kFr w' (fun k => w.heap.size ≤ k) F (newX most xs ys).length (newX most xs ys) ∧ Below w.heap.size w w' := by
  obtain ⟨w0, hw0⟩ : ∃ w0, w0 = (w.alloc (.cells #[.int .i64 most, .slice A n c] 65)).alloc (.cells #[.int .i64 0, .slice none 0 0] 65) := ⟨_, rfl⟩
  obtain ⟨hb0, hd0, hr0⟩ := rf_start hw0
  have HB0 := Lib.hid hb0
  have HD0 := Lib.hid hd0
  have HR0 := Lib.hid hr0
  have HX := Lib.hid hB.byt
  have HY := Lib.hid hY.byt
  have HBA := Lib.hid (show Up w0 (fun W => Bs W A n c xs) from fun W hb => (hB.next hb0).next hb)
  have HBB := Lib.hid (show Up w0 (fun W => Bs W B m d ys) from fun W hb => (hY.next hb0).next hb)
  obtain rfl := hB.len
  obtain rfl := hY.len
  have ht := told_live most A xs.length c xs (hB.next hb0) m1 m2 (by omega) hc
  have hm0 : (most == 0) = false := by simp; omega
  have HC := Lib.hid hc
  clear hB hY hb0 hd0 hr0 hc
  go_enter Tryz.func34, Tryz.ntmps34
  go_wp2_with fail
  rw [← hw0]
  refine ht.mono ?_
  rintro e w1 ⟨A9, c9, rfl, _, _, hb1⟩
  obtain ⟨w2, hw2⟩ : ∃ w2, w2 = w1.alloc (.cells #[.slice A9 (framesX most xs).length c9, .int .i64 (restX most xs).length, .int .i64 0, .int .u32 0] 69) := ⟨_, rfl⟩
  have hb2 : Below w0.heap.size w0 w2 := by rw [hw2]; exact hb1.alloc hb1.size _
  have hd2 := keepB hb2 HD0.out
  have ht2 : w2.heap[w1.heap.size]? = some (rtold (.slice A9 (framesX most xs).length c9) (restX most xs).length 0 0) := by rw [hw2]; exact alloc_at _ _
  have HB2 := Lib.hid hb2
  have HD2 := Lib.hid hd2
  have HT2 := Lib.hid ht2
  have HZ := Lib.hid (show w.heap.size + 2 ≤ w1.heap.size ∧ w1.heap.size < w2.heap.size by
    have := hb1.size; have := (Array.getElem?_eq_some_iff.1 HR0.out).1; have := (Array.getElem?_eq_some_iff.1 ht2).1; omega)
  have HW2 := Lib.hid hw2
  have q1 := cell_alloc (cell_blk hd2 rfl : w2.cell? ⟨w.heap.size, 1, none⟩ = some (.slice A xs.length c))
  clear hb1 ht hw0 hb2 hd2 ht2 hw2
  go_upto_region 6 with fail
  rw [← HW2.out]
  go_wp2_with (at_builtin; first | (refine append_at (w0 := w0) rfl _ _ rfl (.slice (some ⟨w2.heap.size, 0, none⟩) 0 0) [] rfl (own_new w2 w0.heap.size [] HB2.out.size (by simp)) A xs.length c xs rfl ((HBA.out.at_ HB2.out).next ((Below.refl _ _).alloc (Nat.le_refl _) _)) (by simp <;> omega) (HB2.out.alloc HB2.out.size _) ?_; intro v3 w3 ho3 hb3 hg3 hat3; rw [List.nil_append] at ho3; have hb23 : Below w2.heap.size w2 w3 := ((Below.refl _ _).alloc (Nat.le_refl _) _).grown hg3 (by simp) (fun k hk => by simp [Value.ownBlock] at hk; omega); have HO3 := Lib.hid ho3; have HB3 := Lib.hid hb3; have HB23 := Lib.hid hb23; have HG3 := Lib.hid (own_ge hat3 (by simp [Value.ownBlock] : (Value.slice (some ⟨w2.heap.size, 0, none⟩) 0 0).ownBlock = some w2.heap.size) (by simp)); clear ho3 hb3 hg3 hb23 hat3) | go_loud (refine append_at (w0 := w0) rfl _ _ rfl v3 xs rfl HO3.out B ys.length d ys rfl (HBB.out.at_ HB3.out) (by omega) HB3.out ?_; intro v4 w4 ho4 hb4 hg4 hat4; obtain ⟨A4, c4, e4, hq4⟩ := Own.bs ho4 (fun x hx => (List.mem_append.1 hx).elim (HX.out x) (HY.out x)); rw [List.length_append] at e4 hq4; subst e4; have HD4 := Lib.hid (keepB hb4 HD0.out); have HR4 := Lib.hid (keepB hb4 HR0.out); have HT4 := Lib.hid ((hg4.block w1.heap.size (by have := HB23.out.size; have := HZ.out.2; omega) (fun e => by have := HG3.out _ e.symm; have := HZ.out.2; omega)).trans (keepB HB23.out HT2.out)); have HO4 := Lib.hid ho4; have HB4 := Lib.hid hb4; clear ho4 hb4 hg4 hat4 hq4; have d0 : w4.cell? ⟨w.heap.size, 0, none⟩ = some (.int .i64 most) := cell_blk HD4.out rfl; have d1 : w4.cell? ⟨w.heap.size, 1, none⟩ = some (.slice A xs.length c) := cell_blk HD4.out rfl; have d2 : ∀ j, w4.frozen? ⟨w.heap.size, j, none⟩ = false := fun j => free_blk HD4.out))
  obtain ⟨w5, hw5⟩ : ∃ w5, w5 = w4.setCell ⟨w.heap.size, 1, none⟩ (.slice A4 (xs.length + ys.length) c4) := ⟨_, rfl⟩
  have hst : ∀ k, k ≠ w.heap.size → w5.heap[k]? = w4.heap[k]? := fun k hk => by rw [hw5]; exact set_other _ hk
  have hd5 : w5.heap[w.heap.size]? = some (rdec most A4 (xs.length + ys.length) c4) := by rw [hw5]; exact set_blk _ HD4.out
  have hr5 := (hst (w.heap.size + 1) (by omega)).trans HR4.out
  have ht5 := (hst w1.heap.size (by have := HZ.out.1; omega)).trans HT4.out
  have hz0 : w.heap.size + 1 < w0.heap.size := (Array.getElem?_eq_some_iff.1 HR0.out).1
  have ho5 := HO4.out.keep (w1 := w5) (fun k hk => hst k (by have := (HO4.out.blk k hk).1; omega))
  have hq5 : Bs w5 A4 (xs.length + ys.length) c4 (xs ++ ys) := by
    have h := HO4.out.keep (w1 := w5) (fun k hk => hst k (by have := (HO4.out.blk k hk).1; omega))
    obtain ⟨A', c', e', hq⟩ := Own.bs h (fun x hx => (List.mem_append.1 hx).elim (HX.out x) (HY.out x))
    rw [List.length_append] at e' hq
    injection e' with e1 e2 e3
    rw [e1, e3]
    exact hq
  have hb5 : Below w.heap.size w w5 := by rw [hw5]; exact (belowT HB0.out (HB4.out.mono (Nat.le_refl _))).setCell (Nat.le_refl _) _
  rw [← hw5]
  have HB5 := Lib.hid hb5
  have HD5 := Lib.hid hd5
  have HR5 := Lib.hid hr5
  have HT5 := Lib.hid ht5
  have HQ5 := Lib.hid hq5
  have ht' := told_F most A4 (xs.length + ys.length) c4 (xs ++ ys) hq5 m1 m2 hn
  have hfx := framesX_app most xs ys
  have HFX := Lib.hid hfx
  have hlx : (framesX most (xs ++ ys)).length = (framesX most xs).length + (newX most xs ys).length := by rw [hfx, List.length_append]
  clear hb5 hd5 hr5 ht5 hq5 hst hw5 d0 d1 d2 hfx HO4
  refine ht'.mono ?_
  rintro e w6 ⟨Ax, cx, rfl, hcx, hF6, hb6⟩
  obtain ⟨lx, hlx'⟩ : ∃ lx, lx = (framesX most (xs ++ ys)).length := ⟨_, rfl⟩
  obtain ⟨l9, hl9⟩ : ∃ l9, l9 = (framesX most xs).length := ⟨_, rfl⟩
  obtain ⟨ln, hln⟩ : ∃ ln, ln = (newX most xs ys).length := ⟨_, rfl⟩
  rw [← hlx', ← hl9, ← hln] at hlx
  rw [← hlx'] at hcx hF6 ⊢
  have HLX := Lib.hid hlx'
  have HL9 := Lib.hid hl9
  have HLN := Lib.hid hln
  have HT5 := HT5
  obtain ⟨w7, hw7⟩ : ∃ w7, w7 = w6.alloc (.cells #[.slice Ax lx cx, .int .i64 (restX most (xs ++ ys)).length, .int .i64 (whyX most (xs ++ ys)), .int .u32 (stX most (xs ++ ys))] 69) := ⟨_, rfl⟩
  have hb57 : Below w5.heap.size w5 w7 := by rw [hw7]; exact hb6.alloc hb6.size _
  have hb67 : Below w6.heap.size w6 w7 := by rw [hw7]; exact (Below.refl _ _).alloc (Nat.le_refl _) _
  have ht7 : w7.heap[w6.heap.size]? = some (rtold (.slice Ax lx cx) (restX most (xs ++ ys)).length (whyX most (xs ++ ys)) (stX most (xs ++ ys))) := by rw [hw7]; exact alloc_at _ _
  have hd7 := keepB hb57 HD5.out
  have hr7 := keepB hb57 HR5.out
  have hs7 := keepB hb57 HT5.out
  rw [← hl9] at hs7
  have HF7 := Lib.hid (Kd.F_below hF6 hb67)
  have HQ7 := Lib.hid (HQ5.out.next hb57)
  have HB7 := Lib.hid (belowT HB5.out hb57)
  have HW7 := Lib.hid hw7
  have q0 : w7.cell? ⟨w.heap.size, 0, none⟩ = some (.int .i64 most) := cell_blk hd7 rfl
  have q1 : w7.cell? ⟨w.heap.size, 1, none⟩ = some (.slice A4 (xs.length + ys.length) c4) := cell_blk hd7 rfl
  have r0 : w7.cell? ⟨w.heap.size + 1, 0, none⟩ = some (.int .i64 0) := cell_blk hr7 rfl
  have r1 : w7.cell? ⟨w.heap.size + 1, 1, none⟩ = some (.slice none 0 0) := cell_blk hr7 rfl
  have r2 : ∀ j, w7.frozen? ⟨w.heap.size + 1, j, none⟩ = false := fun j => free_blk hr7
  have s0 : w7.cell? ⟨w1.heap.size, 0, none⟩ = some (.slice A9 l9 c9) := cell_blk hs7 rfl
  have t0 : w7.cell? ⟨w6.heap.size, 0, none⟩ = some (.slice Ax lx cx) := cell_blk ht7 rfl
  have t2 : w7.cell? ⟨w6.heap.size, 2, none⟩ = some (.int .i64 (whyX most (xs ++ ys))) := cell_blk ht7 rfl
  have hs1 : (l9 : Int) ≤ lx := by omega
  have hsub : lx - l9 = ln := by omega
  have HLQ := Lib.hid hlx
  have n1 : ¬ w1.heap.size = w.heap.size + 1 := by have := HZ.out.1; omega
  have n2 : ¬ w6.heap.size = w.heap.size + 1 := by have := hb6.size; have := (Array.getElem?_eq_some_iff.1 HT5.out).1; have := HZ.out.1; omega
  have n3 : ¬ w.heap.size + 1 = w1.heap.size := by omega
  have n4 : ¬ w.heap.size + 1 = w6.heap.size := by omega
  have HCX := Lib.hid hcx
  have HO7 := Lib.hid (ho5.keep (w1 := w7) fun k hk => hb57.block k (ho5.blk k hk).2)
  have HZ5 := Lib.hid (show w.heap.size + 2 ≤ w5.heap.size by have := (Array.getElem?_eq_some_iff.1 HT5.out).1; have := HZ.out.1; omega)
  clear hlx hlx' hl9 hln hw7 ho5 hb57 hb67 ht7 hd7 hr7 hs7 hF6 hb6 ht' HT5 HD5 HR5
  go_upto_region 10 with fail
  rw [← HW7.out]
  by_cases hcm : cx = l9
  · go_region
    have hF9 := rf_frames (c := cx) HF7.out HLX.out HL9.out HFX.out HCX.out
    rw [if_pos hcm] at hF9
    go_wp2_with fail
    obtain ⟨w8, hw8⟩ : ∃ w8, w8 = ((w7.setCell ⟨w.heap.size + 1, 0, none⟩ (.int .i64 most)).setCell ⟨w.heap.size + 1, 1, none⟩ (.slice A4 (xs.length + ys.length) c4)).drew := ⟨_, rfl⟩
    have hst8 : ∀ k, k ≠ w.heap.size + 1 → w8.heap[k]? = w7.heap[k]? := fun k hk => by rw [hw8]; show ((w7.setCell ⟨w.heap.size + 1, 0, none⟩ (.int .i64 most)).setCell ⟨w.heap.size + 1, 1, none⟩ (.slice A4 (xs.length + ys.length) c4)).heap[k]? = _; rw [set_other _ hk, set_other _ hk]
    have hb8 : Below w.heap.size w w8 := by rw [hw8]; exact ((HB7.out.setCell (by simp) _).setCell (by simp) _).drew
    have hq8 : FBs w8 (fun k => w.heap.size ≤ k) A4 (xs.length + ys.length) c4 (xs ++ ys) := (own_fbs (HO7.out.keep (w1 := w8) fun k hk => hst8 k (by have := (HO7.out.blk k hk).1; omega)) (fun x hx => (List.mem_append.1 hx).elim (HX.out x) (HY.out x))).mono fun k hk => (show w.heap.size ≤ k by omega)
    have hF8 : Kd.F kFr w8 (fun k => w.heap.size ≤ k) Ax ln (newX most xs ys) := by
      have h := Kd.F_mono (Kd.F_step hF9 (W1 := w8) fun k hk _ => hst8 k (by have := HZ5.out; omega)) fun k hk => (show w.heap.size ≤ k by have := HZ5.out; omega)
      rw [HLN.out]
      exact h
    refine bodyPost_ret (v := .tuple #[.agg #[.int .i64 most, .slice A4 (xs.length + ys.length) c4], .slice Ax ln 0, .int .i64 (whyX most (xs ++ ys))]) ?_ rfl ⟨A4, c4, Ax, 0, by rw [← HLN.out], ?_, ?_, ?_⟩
    · simp [results, Tryz.results34, go_sem, r0, r1]
    · rw [hw8] at hq8; exact hq8
    · rw [hw8] at hF8; rw [← HLN.out]; exact hF8
    · rw [hw8] at hb8; exact hb8
  · go_region
    have hF9 := rf_frames (c := cx) HF7.out HLX.out HL9.out HFX.out HCX.out
    rw [if_neg hcm] at hF9
    go_wp2_with fail
    obtain ⟨w8, hw8⟩ : ∃ w8, w8 = ((w7.setCell ⟨w.heap.size + 1, 0, none⟩ (.int .i64 most)).setCell ⟨w.heap.size + 1, 1, none⟩ (.slice A4 (xs.length + ys.length) c4)).drew := ⟨_, rfl⟩
    have hst8 : ∀ k, k ≠ w.heap.size + 1 → w8.heap[k]? = w7.heap[k]? := fun k hk => by rw [hw8]; show ((w7.setCell ⟨w.heap.size + 1, 0, none⟩ (.int .i64 most)).setCell ⟨w.heap.size + 1, 1, none⟩ (.slice A4 (xs.length + ys.length) c4)).heap[k]? = _; rw [set_other _ hk, set_other _ hk]
    have hb8 : Below w.heap.size w w8 := by rw [hw8]; exact ((HB7.out.setCell (by simp) _).setCell (by simp) _).drew
    have hq8 : FBs w8 (fun k => w.heap.size ≤ k) A4 (xs.length + ys.length) c4 (xs ++ ys) := (own_fbs (HO7.out.keep (w1 := w8) fun k hk => hst8 k (by have := (HO7.out.blk k hk).1; omega)) (fun x hx => (List.mem_append.1 hx).elim (HX.out x) (HY.out x))).mono fun k hk => (show w.heap.size ≤ k by omega)
    have hF8 : Kd.F kFr w8 (fun k => w.heap.size ≤ k) (Ax.map (·.add (l9 * 6))) ln (newX most xs ys) := by
      have h := Kd.F_mono (Kd.F_step hF9 (W1 := w8) fun k hk _ => hst8 k (by have := HZ5.out; omega)) fun k hk => (show w.heap.size ≤ k by have := HZ5.out; omega)
      rw [HLN.out]
      exact h
    refine bodyPost_ret (v := .tuple #[.agg #[.int .i64 most, .slice A4 (xs.length + ys.length) c4], .slice (Ax.map (·.add (l9 * 6))) ln (cx - l9), .int .i64 (whyX most (xs ++ ys))]) ?_ rfl ⟨A4, c4, (Ax.map (·.add (l9 * 6))), (cx - l9), by rw [← HLN.out], ?_, ?_, ?_⟩
    · simp [results, Tryz.results34, go_sem, r0, r1]
    · rw [hw8] at hq8; exact hq8
    · rw [hw8] at hF8; rw [← HLN.out]; exact hF8
    · rw [hw8] at hb8; exact hb8
/-- Feed, whatever became of the decoder: zs is what it keeps. -/
theorem rfeed_any {w : World} {ok : Nat → Prop} (most : Int) (A : Option Addr) (n c : Nat) (xs : List Int) (hB : FBs w ok A n c xs) (B : Option Addr) (m d : Nat) (ys : List Int) (hY : Bs w B m d ys) (m1 : 1 ≤ most) (m2 : most ≤ 65536) (hn : n + m ≤ 1000000000) :
    Calls Tryz.prog 34 #[.agg #[.int .i64 most, .slice A n c], .slice B m d] w fun e w' => ∃ A' n' c' zs F f, e = .returned (.tuple #[.agg #[.int .i64 most, .slice A' n' c'], .slice F (newX most xs ys).length f, .int .i64 (whyX most (xs ++ ys))]) ∧ n' ≤ n + m ∧ cut most zs = cut most (xs ++ ys) ∧ (∀ x ∈ zs, 0 ≤ x ∧ x ≤ 255) ∧ FBs w' (fun k => ok k ∨ w.heap.size ≤ k) A' n' c' zs ∧ Kd.F kFr w' (fun k => w.heap.size ≤ k) F (newX most xs ys).length (newX most xs ys) ∧ Below w.heap.size w w' := by
  by_cases hc : codeX most xs = 0
  · refine (rfeed_live most A n c xs hB.now B m d ys hY m1 m2 hn hc).mono ?_
    rintro e w' ⟨A', c', F, f, he, hq, hF, hb⟩
    exact ⟨A', n + m, c', xs ++ ys, F, f, he, Nat.le_refl _, rfl, hq.now.byt, hq.mono fun k hk => .inr hk, hF, hb⟩
  · refine (rfeed_dead most A n c xs hB.now m1 m2 (by omega) hc (.slice B m d)).mono ?_
    rintro e w' ⟨he, hb⟩
    have e0 := app_dead (ys := ys) hc
    have e1 : newX most xs ys = [] := by unfold newX; rw [if_neg hc]
    have e2 : whyX most (xs ++ ys) = whyX most xs := by unfold whyX codeX; rw [e0]
    refine ⟨A, n, c, xs, none, 0, ?_, by omega, e0.symm, hB.now.byt, (hB.below hb).mono fun k hk => .inl hk, ?_, hb⟩
    · rw [e1, e2]; exact he
    · rw [e1]; exact Kd.F_nil _ _ _
/-- A decoder's facts hang on what its bytes tell alone. -/
theorem DecV.cut_eq {sa : Nat → Addr} {w0 w : World} {g b : Nat} {most : Int} {xs zs : List Int} {v : Value} (h : DecV sa w0 w g most xs v b) (e : cut most zs = cut most xs) : DecV sa w0 w g most zs v b := by
  have e1 : codeX most zs = codeX most xs := by unfold codeX; rw [e]
  have e2 : restX most zs = restX most xs := by unfold restX; rw [e]
  have e3 : stX most zs = stX most xs := by unfold stX; rw [e]
  exact ⟨fun hc => by rw [e2]; exact h.live (e1 ▸ hc), fun hc => by rw [e1, e3]; exact h.dead (e1 ▸ hc)⟩
end Go.Proofs.YtidmgckmphcegaaGreatDoor
