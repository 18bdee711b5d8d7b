/-
  FrameOwn, walked.
-/
import Derived.Test.YtfddhipdedcacaaDoorMD
import Derived.Test.YtfddhipdedcacaaDoorMB
import Derived.Test.YtfddhipdedcacaaDoorWLast
namespace Go.Proofs.YtfddhipdedcacaaDoor
open Go.RowKit Go.Proofs.YtfddhipdedcacaaDoorW.PrintLast
set_option linter.unusedVariables false
set_option linter.unusedSimpArgs false
theorem bulk_frame {H : Type} {dh db : DataW H} {n : Nat} (h : db = .nil ∧ n = 0 ∨ ∃ es sp, db = .slice es sp ∧ es.length = n) : n ≤ Rows.uptoBulk (.agg [dh, db]) := by
  rcases h with ⟨rfl, rfl⟩ | ⟨es, sp, rfl, rfl⟩
  · exact Nat.zero_le _
  · have h1 := bulk_len es
    simp only [Rows.uptoBulk, Rows.uptoBulkAll]
    omega
theorem CR.bs {W : World} {b n c : Nat} {xs : List Int} (h : CR W b 0 n c (fun j => xs.getD j 0)) (hl : xs.length = n) (hx : ∀ x ∈ xs, 0 ≤ x ∧ x ≤ 255) : Bs W (some ⟨b, 0, none⟩) n c xs :=
  ⟨hl, h.le, h.max, hx, (fun e => by cases e), fun _ => ⟨b, 0, rfl, fun j hj => h.rd j hj⟩⟩
theorem Own.crs {W : World} {base g n c : Nat} {xs : List Int} (h : Own W base (.slice (some ⟨g, 0, none⟩) n c) xs) (hn : 0 < xs.length) : n = xs.length ∧ base ≤ g ∧ g < W.heap.size ∧ CR W g 0 xs.length c (fun j => xs.getD j 0) := by
  obtain ⟨g', c', e, h1, h2, h3⟩ := h.cr hn
  simp at e
  obtain ⟨rfl, rfl, rfl⟩ := e
  exact ⟨rfl, h1, h2, h3⟩
theorem enc_bytO {ver ty fl st ln : Int} (hI : HdIn ver ty fl st ln) : ∀ x ∈ enc ver ty fl st ln, 0 ≤ x ∧ x ≤ 255 := by
  obtain ⟨v0, v1, t0, t1, f0, f1, s0, s1, l0, l1⟩ := hI
  intro x hx
  simp only [enc, List.mem_cons, List.not_mem_nil, or_false] at hx
  omega
/-- The frame's box. -/
def BxO (g : Nat) (ver ty fl st ln : Int) (A : Option Addr) (n c : Nat) (w : World) : Prop :=
  w.cell? ⟨g, 0, none⟩ = some (.int .u8 ver) ∧ w.cell? ⟨g, 1, none⟩ = some (.int .u8 ty) ∧ w.cell? ⟨g, 2, none⟩ = some (.int .u16 fl) ∧ w.cell? ⟨g, 3, none⟩ = some (.int .u32 st) ∧ w.cell? ⟨g, 4, none⟩ = some (.int .u32 ln) ∧ w.cell? ⟨g, 5, none⟩ = some (.slice A n c)
theorem BxO.next {g : Nat} {ver ty fl st ln : Int} {A : Option Addr} {n c : Nat} {w w' : World} (h : BxO g ver ty fl st ln A n c w) (hb : Below w.heap.size w w') : BxO g ver ty fl st ln A n c w' := ⟨keepA hb h.1, keepA hb h.2.1, keepA hb h.2.2.1, keepA hb h.2.2.2.1, keepA hb h.2.2.2.2.1, keepA hb h.2.2.2.2.2⟩
theorem three_bs (w : World) : Bs (w.alloc (.cells #[.int .u8 1, .int .u8 2, .int .u8 3] 5)) (some ⟨w.heap.size, 0, none⟩) 3 3 [1, 2, 3] :=
  row_bs (base := w.heap.size) (own_new w w.heap.size [1, 2, 3] (Nat.le_refl _) (by simp)) (by simp) rfl (by omega)
/-- What stays as the law runs. -/
structure KO (sa : Nat → Addr) (g : Nat) (ver ty fl st ln : Int) (A : Option Addr) (n c : Nat) (xs : List Int) (w : World) : Prop where
  good : Good w sa
  law : Lawful w
  bs : Bs w A n c xs
  bx : BxO g ver ty fl st ln A n c w
set_option maxRecDepth 100000 in
set_option maxHeartbeats 4000000 in
theorem frameOwn_walk {sa : Nat → Addr} {w : World} (hG : Good w sa) (hL : Lawful w) (ver ty fl st ln : Int) (A : Option Addr) (n c : Nat) (xs : List Int) (hB : Bs w A n c xs) (hI : HdIn ver ty fl st ln) (hn : n ≤ 1048576) :
    Calls Tryd.prog 7 #[frm ver ty fl st ln A n c] w fun e w' => e = .returned (.bool true) ∧ Below w.heap.size w w' := by
  obtain rfl := hB.len
  have hxb := Lib.hid hB.byt
  have v0 := hI.v0
  have v1 := hI.v1
  have f0 := hI.f0
  have f1 := hI.f1
  have s0 := hI.s0
  have s1 := hI.s1
  have l0 : (0 : Int) ≤ xs.length := by omega
  have l1 : (xs.length : Int) ≤ 4294967295 := by omega
  have HN := Lib.hid (enc_bytO (ty := 0) ⟨v0, v1, by decide, by decide, f0, f1, s0, s1, l0, l1⟩)
  obtain ⟨w1, hw1⟩ : ∃ w1, w1 = w.alloc (.cells #[.int .u8 ver, .int .u8 ty, .int .u16 fl, .int .u32 st, .int .u32 ln, .slice A xs.length c] 45) := ⟨_, rfl⟩
  have HB1 := Lib.hid (show Below w.heap.size w w1 by rw [hw1]; exact (Below.refl _ _).alloc (Nat.le_refl _) _)
  have HX1 := Lib.hid (show w1.heap[w.heap.size]? = some (.cells #[.int .u8 ver, .int .u8 ty, .int .u16 fl, .int .u32 st, .int .u32 ln, .slice A xs.length c] 45 (0, 0)) by rw [hw1]; exact alloc_at _ _)
  have HG := Lib.hid hG
  have HL := Lib.hid hL
  have HBs := Lib.hid hB
  have HE := Lib.hid hw1
  clear hG hL hB hI hw1
  go_enter Tryd.func7, Tryd.ntmps7
  go_wp2_with fail
  rw [← HE.out]
  clear HE
  refine (awake4 (HG.out.below HB1.out) (HL.out.below HB1.out)).mono ?_
  rintro e w2 ⟨rfl, hb2⟩
  have HX2 := Lib.hid (keepB hb2 HX1.out)
  have HB2 := Lib.hid (belowT HB1.out hb2)
  clear hb2 HX1 HB1
  have e0 : w2.cell? ⟨w.heap.size, 0, none⟩ = some (.int .u8 ver) := cell_blk HX2.out rfl
  have e1 : w2.cell? ⟨w.heap.size, 1, none⟩ = some (.int .u8 ty) := cell_blk HX2.out rfl
  have e2 : w2.cell? ⟨w.heap.size, 2, none⟩ = some (.int .u16 fl) := cell_blk HX2.out rfl
  have e3 : w2.cell? ⟨w.heap.size, 3, none⟩ = some (.int .u32 st) := cell_blk HX2.out rfl
  have e4 : w2.cell? ⟨w.heap.size, 4, none⟩ = some (.int .u32 ln) := cell_blk HX2.out rfl
  have e5 : w2.cell? ⟨w.heap.size, 5, none⟩ = some (.slice A xs.length c) := cell_blk HX2.out rfl
  have q1 : w2.frozen? ⟨w.heap.size, 1, none⟩ = false := free_blk HX2.out
  have q4 : w2.frozen? ⟨w.heap.size, 4, none⟩ = false := free_blk HX2.out
  have hd : decide ((2147483647 : Int) < xs.length) = false := by simp; omega
  have hw : IntKind.u32.wrap (xs.length : Int) = xs.length := by rw [IntKind.wrap_u32]; omega
  obtain ⟨w4, hw4⟩ : ∃ w4, w4 = (w2.setCell ⟨w.heap.size, 1, none⟩ (.int .u8 0)).setCell ⟨w.heap.size, 4, none⟩ (.int .u32 xs.length) := ⟨_, rfl⟩
  have HB4 := Lib.hid (show Below w.heap.size w w4 by rw [hw4]; exact (HB2.out.setCell (Nat.le_refl _) _).setCell (Nat.le_refl _) _)
  have hx4 : BxO w.heap.size ver 0 fl st xs.length A xs.length c w4 := by
    rw [hw4]
    refine ⟨?_, ?_, ?_, ?_, ?_, ?_⟩
    · rw [World.cell?_setCell_other _ _ _ _ (by simp), World.cell?_setCell_other _ _ _ _ (by simp)]; exact e0
    · rw [World.cell?_setCell_other _ _ _ _ (by simp)]; exact World.cell?_setCell_same _ _ _ e1
    · rw [World.cell?_setCell_other _ _ _ _ (by simp), World.cell?_setCell_other _ _ _ _ (by simp)]; exact e2
    · rw [World.cell?_setCell_other _ _ _ _ (by simp), World.cell?_setCell_other _ _ _ _ (by simp)]; exact e3
    · exact World.cell?_setCell_same _ _ _ ((World.cell?_setCell_other _ _ _ _ (by simp)).trans e4)
    · rw [World.cell?_setCell_other _ _ _ _ (by simp), World.cell?_setCell_other _ _ _ _ (by simp)]; exact e5
  have HU := Lib.hid (show Up w4 (KO sa w.heap.size ver 0 fl st xs.length A xs.length c xs) from fun w' hb => ⟨HG.out.below (belowT HB4.out hb), HL.out.below (belowT HB4.out hb), HBs.out.next (belowT HB4.out hb), hx4.next hb⟩)
  have e5a : ∀ o, (((w2.setCell ⟨w.heap.size, 1, none⟩ (.int .u8 0)).setCell ⟨w.heap.size, 4, none⟩ (.int .u32 xs.length)).alloc o).cell? ⟨w.heap.size, 5, none⟩ = some (.slice A xs.length c) := fun o => by rw [← hw4]; exact keepA ((Below.refl _ _).alloc (Nat.le_refl _) _) hx4.2.2.2.2.2
  have HW4 := Lib.hid hw4
  have HZ4 := Lib.hid (show w4.heap.size = w2.heap.size by rw [hw4]; simp)
  clear hw4 hx4
  obtain ⟨ys, hys⟩ : ∃ ys, ys = xs ++ [1, 2, 3] := ⟨_, rfl⟩
  have HYL := Lib.hid (show ys.length = xs.length + 3 by rw [hys]; simp)
  have HYB := Lib.hid (show ∀ x ∈ ys, 0 ≤ x ∧ x ≤ 255 by rw [hys]; exact fun x hx => (List.mem_append.1 hx).elim (hxb.out x) (by simp; rintro (rfl | rfl | rfl) <;> decide))
  have HY := Lib.hid hys
  clear hys
  go_wp2_with (at_builtin; first | (rw [← HW4.out, ← HZ4.out]; refine wpList_append_bs rfl _ _ rfl w4.heap.size (.slice (some ⟨w4.heap.size, 0, none⟩) 0 0) [] rfl (own_new w4 w4.heap.size [] (Nat.le_refl _) (by simp)) A xs.length c xs rfl (HU.out.now.bs.next ((Below.refl _ _).alloc (Nat.le_refl _) _)) (by simp; omega) (by simp) ?_; intro v5 w5 ho5 hg5 _; have HB5 := Lib.hid (show Below w4.heap.size w4 w5 from ((Below.refl _ _).alloc (Nat.le_refl _) _).grown hg5 (by simp) (fun k hk => by simp [Value.ownBlock] at hk; omega)); have HO5 := Lib.hid (show Own w5 w4.heap.size v5 xs from ho5); clear ho5 hg5) | (refine wpList_append_bs rfl _ _ rfl w4.heap.size v5 xs rfl (HO5.out.next ((Below.refl _ _).alloc (Nat.le_refl _) _)) (some ⟨w5.heap.size, 0, none⟩) 3 3 [1, 2, 3] rfl (three_bs w5) (by omega) (by have := HB5.out.size; simp; omega) ?_; intro v6 w6 ho6 hg6 _; have HB6 := Lib.hid (show Below w4.heap.size w4 w6 from (HB5.out.alloc HB5.out.size _).grown hg6 (by have := HB5.out.size; simp; omega) (fun k hk => (HO5.out.blk k hk).1)); have HO6 := Lib.hid (show Own w6 w4.heap.size v6 ys by rw [HY.out]; exact ho6); clear ho6 hg6; obtain ⟨g5, c5, rfl, hg5a, hg5b, hC5⟩ := HO6.out.cr (by have := HYL.out; omega); have hs8 := str_of (hC5.bs rfl HYB.out)))
  clear HW4 HZ4 HB5 HO5 e0 e1 e2 e3 e4 e5 e5a q1 q4
  have HC6 := Lib.hid hC5
  have HK6 := Lib.hid (HU.out.next HB6.out)
  obtain ⟨k0, k1, k2, k3, k4, k5⟩ := HK6.out.now.bx
  have hcc : xs.length ≤ c5 := by have := hC5.le; have := HYL.out; omega
  clear hC5 hs8
  have hgL : w.heap.size ≠ w6.heap.size := by have := HB6.out.size; have := HB4.out.size; have := HB2.out.size; have := World.block_lt_of_cell? w6 _ k0; simp at this; omega
  have hal : ∀ o, Below w6.heap.size w6 (w6.alloc o) := fun o => (Below.refl _ _).alloc (Nat.le_refl _) _
  have k0a := fun o => keepA (hal o) k0
  have k1a := fun o => keepA (hal o) k1
  have k2a := fun o => keepA (hal o) k2
  have k3a := fun o => keepA (hal o) k3
  have k4a := fun o => keepA (hal o) k4
  have k5a := fun o => keepA (hal o) k5
  clear hal
  go_region
  clear k0a k1a k2a k3a k4a k5a k0 k1 k2 k3 k4 k5
  obtain ⟨w7, hw7⟩ : ∃ w7, w7 = (w6.alloc (.cells #[.int .u8 ver, .int .u8 0, .int .u16 fl, .int .u32 st, .int .u32 xs.length, .slice (some ⟨g5, 0, none⟩) xs.length c5] 45)).drew := ⟨_, rfl⟩
  have HB7 := Lib.hid (show Below w6.heap.size w6 w7 by rw [hw7]; exact ((Below.refl _ _).alloc (Nat.le_refl _) _).drew)
  have hX7 : w7.heap[w6.heap.size]? = some (.cells #[.int .u8 ver, .int .u8 0, .int .u16 fl, .int .u32 st, .int .u32 xs.length, .slice (some ⟨g5, 0, none⟩) xs.length c5] 45 (0, 0)) := by rw [hw7]; exact alloc_at _ _
  have hx7 : BxO w6.heap.size ver 0 fl st xs.length (some ⟨g5, 0, none⟩) xs.length c5 w7 := ⟨cell_blk hX7 rfl, cell_blk hX7 rfl, cell_blk hX7 rfl, cell_blk hX7 rfl, cell_blk hX7 rfl, cell_blk hX7 rfl⟩
  rw [← hw7]
  clear hw7 hX7
  have HC7 := Lib.hid (HC6.out.below hg5b HB7.out)
  have HY7 := Lib.hid (show Up w7 (fun w' => Bs w' (some ⟨g5, 0, none⟩) ys.length c5 ys ∧ Bs w' (some ⟨g5, 0, none⟩) xs.length c5 xs ∧ CR w' g5 0 xs.length c5 (fun j => xs.getD j 0)) from fun w' hb => by
    have hc := HC6.out.below hg5b (belowT HB7.out hb)
    have hb1 := hc.bs rfl HYB.out
    have hl := HYL.out
    have ht := hb1.take' xs.length (by omega)
    have e : ys.take xs.length = xs := by rw [HY.out]; simp
    rw [e] at ht
    refine ⟨hb1, ht, (hc.pre (by omega)).congr fun j hj => ?_⟩
    rw [HY.out]
    simp [List.getD_eq_getElem?_getD, List.getElem?_append_left hj])
  have HX7 := Lib.hid (show Up w7 (BxO w6.heap.size ver 0 fl st xs.length (some ⟨g5, 0, none⟩) xs.length c5) from fun w' hb => hx7.next hb)
  have HU7 := Lib.hid (HK6.out.next HB7.out)
  clear HC6 HK6 hx7 hgL
  obtain ⟨p0, p1, p2, p3, p4, p5⟩ := HX7.out.now
  have hsz : (xs.length : Int) = szF 0 xs.length := by unfold szF; rw [if_pos rfl]
  have HSZ := Lib.hid hsz
  clear hsz
  go_wp2_with fail
  obtain ⟨zs, hzs⟩ : ∃ zs, zs = enc ver 0 fl st xs.length ++ xs := ⟨_, rfl⟩
  have HZ := Lib.hid hzs
  have HZL := Lib.hid (show zs.length = 12 + xs.length by rw [hzs, List.length_append]; rfl)
  refine (fbytes_yes ver 0 fl st xs.length (some ⟨g5, 0, none⟩) xs.length c5 xs w7 HY7.out.now.2.1 f0 f1 s0 s1 l0 l1 HSZ.out).mono ?_
  rintro e w8 ⟨v8, rfl, ho8, hb8⟩
  rw [← hzs] at ho8
  obtain ⟨g8, c8, rfl, hg8a, hg8b, hc8⟩ := ho8.cr (by have := HZL.out; omega)
  have HB8 := Lib.hid hb8
  have HC8 := Lib.hid hc8
  have HX8 := Lib.hid (HX7.out.next hb8)
  clear ho8 hb8 hc8 p0 p1 p2 p3 p4 p5
  obtain ⟨p0, p1, p2, p3, p4, p5⟩ := HX8.out.now
  clear hzs
  go_wp2_with fail
  refine (fbytes_yes ver 0 fl st xs.length (some ⟨g5, 0, none⟩) xs.length c5 xs w8 (HY7.out.at_ HB8.out).2.1 f0 f1 s0 s1 l0 l1 HSZ.out).mono ?_
  rintro e w9 ⟨v9, rfl, ho9, hb9⟩
  rw [← HZ.out] at ho9
  obtain ⟨g9, c9, rfl, hg9a, hg9b, hc9⟩ := ho9.cr (by have := HZL.out; omega)
  have HB9 := Lib.hid (belowT HB8.out hb9)
  have HC89 := Lib.hid (HC8.out.below hg8b hb9)
  have HC9 := Lib.hid hc9
  have HU9 := Lib.hid (HU7.out.next HB9.out)
  have hg89 := hb9.size
  clear ho9 hb9 hc9 p0 p1 p2 p3 p4 p5 HC8 HX8
  go_wp2_with fail
  refine start_ (n := 8) (S := fun w' => w'.cell? ⟨w.heap.size, 0, none⟩ = some (.int .u8 ver) ∧ w'.cell? ⟨w.heap.size, 1, none⟩ = some (.int .u8 0) ∧ w'.cell? ⟨w.heap.size, 2, none⟩ = some (.int .u16 fl) ∧ w'.cell? ⟨w.heap.size, 3, none⟩ = some (.int .u32 st) ∧ w'.cell? ⟨w.heap.size, 4, none⟩ = some (.int .u32 xs.length) ∧ Hid (Below w9.heap.size w9 w')) (ds := []) #[false, false, false, false, false, false, false, false] (by kernel_rfl) rfl rfl (⟨HU9.out.now.bx.1, HU9.out.now.bx.2.1, HU9.out.now.bx.2.2.1, HU9.out.now.bx.2.2.2.1, HU9.out.now.bx.2.2.2.2.1, Lib.hid (Below.refl _ _).drew⟩) (fun hHeld => ?_)
  refine pure_ (i := 0) (N := some 52) (v := ?_) (a' := ?_) #[true, false, false, false, false, false, false, false] rfl rfl (by kernel_rfl) (fun _ _ _ h => h) (Or.inl ⟨by rfl, ?_⟩) ?_ ?_
  rotate_left
  · intro w'
    go_simp
    with_reducible rfl
  rotate_left
  · simp only [Act.put, List.setIfInBounds_toArray, List.set_cons_zero, List.set_cons_succ, i64_w, i32_w]
    rfl
  refine pure_ (i := 3) (N := some 55) (v := ?_) (a' := ?_) #[true, false, false, true, false, false, false, false] rfl rfl (by kernel_rfl) (fun _ _ _ h => h) (Or.inl ⟨by rfl, ?_⟩) ?_ ?_
  rotate_left
  · intro w'
    go_simp
    with_reducible rfl
  rotate_left
  · simp only [Act.put, List.setIfInBounds_toArray, List.set_cons_zero, List.set_cons_succ, i64_w, i32_w]
    rfl
  refine take_ (i := 1) (N := some 53) (v := ?_) (a' := ?_) #[true, true, false, true, false, false, false, false] rfl rfl (by kernel_rfl) (fun _ _ _ h => h) (Or.inl ⟨by rfl, ?_⟩) hHeld ?_ ?_
  rotate_left
  · rintro w' ⟨s0, s1, s2, s3, s4, s5⟩
    go_simp
    with_reducible rfl
  rotate_left
  · simp only [Act.put, List.setIfInBounds_toArray, List.set_cons_zero, List.set_cons_succ, i64_w, i32_w]
    rfl
  refine take_ (i := 4) (N := some 56) (v := ?_) (a' := ?_) #[true, true, false, true, true, false, false, false] rfl rfl (by kernel_rfl) (fun _ _ _ h => h) (Or.inl ⟨by rfl, ?_⟩) hHeld ?_ ?_
  rotate_left
  · rintro w' ⟨s0, s1, s2, s3, s4, s5⟩
    go_simp
    with_reducible rfl
  rotate_left
  · simp only [Act.put, List.setIfInBounds_toArray, List.set_cons_zero, List.set_cons_succ, i64_w, i32_w]
    rfl
  refine one_ (i := 2) (N := some 54) #[true, true, true, true, true, false, false, false] rfl rfl (by kernel_rfl) (by decide) (fun K hK => ?_)
  refine goes_ Tryd.func28 (by kernel_rfl) rfl #[hdr ver 0 fl st xs.length] (by rfl) rfl rfl (by simp only [List.map_toArray, List.map_cons, List.map_nil]; rfl) ?_
  with_reducible refine (encode_any ver 0 fl st xs.length _ f0 f1 s0 s1 l0 l1).mono ?_
  rintro e wa ⟨ga, rfl, hoa, hba⟩
  refine ⟨_, rfl, ?_⟩
  have HOa := Lib.hid hoa
  have HBa := Lib.hid hba
  have hsa := hHeld.2.2.2.2.2.out.size
  clear hoa hba
  refine hK.out _ _ (⟨keepA HBa.out hHeld.1, keepA HBa.out hHeld.2.1, keepA HBa.out hHeld.2.2.1, keepA HBa.out hHeld.2.2.2.1, keepA HBa.out hHeld.2.2.2.2.1, Lib.hid (belowT hHeld.2.2.2.2.2.out HBa.out)⟩) (fun hHeld => ?_)
  clear hK K
  refine norm_ (a' := ?_) ?_ ?_
  rotate_left
  · show Act.put _ (some 54) _ = _
    simp only [Act.put, List.setIfInBounds_toArray, List.set_cons_zero, List.set_cons_succ, i64_w, i32_w]
    rfl
  refine one_ (i := 5) (N := some 57) #[true, true, true, true, true, true, false, false] rfl rfl (by kernel_rfl) (by decide) (fun K hK => ?_)
  refine goes_ Tryd.func28 (by kernel_rfl) rfl #[hdr ver 0 fl st xs.length] (by rfl) rfl rfl (by simp only [List.map_toArray, List.map_cons, List.map_nil]; rfl) ?_
  with_reducible refine (encode_any ver 0 fl st xs.length _ f0 f1 s0 s1 l0 l1).mono ?_
  rintro e wb ⟨gb, rfl, hob, hbb⟩
  refine ⟨_, rfl, ?_⟩
  have HOb := Lib.hid hob
  have HBb := Lib.hid hbb
  clear hob hbb
  refine hK.out _ _ (⟨keepA HBb.out hHeld.1, keepA HBb.out hHeld.2.1, keepA HBb.out hHeld.2.2.1, keepA HBb.out hHeld.2.2.2.1, keepA HBb.out hHeld.2.2.2.2.1, Lib.hid (belowT hHeld.2.2.2.2.2.out HBb.out)⟩) (fun hHeld => ?_)
  clear hK K
  refine norm_ (a' := ?_) ?_ ?_
  rotate_left
  · show Act.put _ (some 57) _ = _
    simp only [Act.put, List.setIfInBounds_toArray, List.set_cons_zero, List.set_cons_succ, i64_w, i32_w]
    rfl
  refine pure_ (i := 6) (N := some 10) (v := ?_) (a' := ?_) #[true, true, true, true, true, true, true, false] rfl rfl (by kernel_rfl) (fun _ _ _ h => h) (Or.inl ⟨by rfl, ?_⟩) ?_ ?_
  rotate_left
  · intro w'
    go_simp
    with_reducible rfl
  rotate_left
  · simp only [Act.put, List.setIfInBounds_toArray, List.set_cons_zero, List.set_cons_succ, i64_w, i32_w]
    rfl
  refine pure_ (i := 7) (N := some 11) (v := ?_) (a' := ?_) #[true, true, true, true, true, true, true, true] rfl rfl (by kernel_rfl) (fun _ _ _ h => h) (Or.inl ⟨by rfl, ?_⟩) ?_ ?_
  rotate_left
  · intro w'
    go_simp
    with_reducible rfl
  rotate_left
  · simp only [Act.put, List.setIfInBounds_toArray, List.set_cons_zero, List.set_cons_succ, i64_w, i32_w]
    rfl
  refine done_ (by kernel_rfl) ?_
  have HBb9 := Lib.hid hHeld.2.2.2.2.2.out
  have hga : w9.heap.size ≤ ga ∧ ga < wa.heap.size := ⟨(Own.crs (xs := enc ver 0 fl st xs.length) HOa.out (by simp [enc])).2.1, (Own.crs (xs := enc ver 0 fl st xs.length) HOa.out (by simp [enc])).2.2.1⟩
  have HCa := Lib.hid (show CR wa ga 0 12 12 (fun j => (enc ver 0 fl st xs.length).getD j 0) from (Own.crs (xs := enc ver 0 fl st xs.length) HOa.out (by simp [enc])).2.2.2)
  have hgb : wa.heap.size ≤ gb ∧ gb < wb.heap.size := ⟨(Own.crs (xs := enc ver 0 fl st xs.length) HOb.out (by simp [enc])).2.1, (Own.crs (xs := enc ver 0 fl st xs.length) HOb.out (by simp [enc])).2.2.1⟩
  have HCb := Lib.hid (show CR wb gb 0 12 12 (fun j => (enc ver 0 fl st xs.length).getD j 0) from (Own.crs (xs := enc ver 0 fl st xs.length) HOb.out (by simp [enc])).2.2.2)
  clear hHeld HOa HOb hsa
  have HZB := Lib.hid (show ∀ x ∈ zs, 0 ≤ x ∧ x ≤ 255 by rw [HZ.out]; exact fun x hx => (List.mem_append.1 hx).elim (HN.out x) (hxb.out x))
  obtain ⟨en, hen⟩ : ∃ en, en = enc ver 0 fl st xs.length := ⟨_, rfl⟩
  rw [← hen] at HCa HCb HN
  have HEL := Lib.hid (show en.length = 12 by rw [hen]; rfl)
  clear hen
  go_wp2_with fail
  refine (decode_any (HU9.out.at_ HBb9.out).good ((HC89.out.below (by omega) HBb9.out).bs rfl HZB.out)).mono ?_
  rintro e wc ⟨rfl, hbc⟩
  have HBc9 := Lib.hid (belowT HBb9.out hbc)
  have HBcb := Lib.hid hbc
  have HBca := Lib.hid (belowT HBb.out hbc)
  have HBc7 := Lib.hid (belowT HB9.out HBc9.out)
  clear hbc HBb
  have t1 := str_of (HY7.out.at_ HBc7.out).1
  have t2 := str_of ((HC89.out.below (by omega) HBc9.out).bs rfl HZB.out)
  have t3 := str_of ((HC9.out.below (by omega) HBc9.out).bs rfl HZB.out)
  have t4 := str_of ((HCa.out.below hga.2 HBca.out).bs HEL.out HN.out)
  have t5 := str_of ((HCb.out.below hgb.2 HBcb.out).bs HEL.out HN.out)
  have k5 := (HU9.out.at_ HBc9.out).bx.2.2.2.2.2
  have hwr : IntKind.i64.wrap (12 + (xs.length : Int)) = 12 + xs.length := by rw [IntKind.wrap_i64]; omega
  have hne : ((zs.length : Int) != 12 + xs.length) = false := by have := HZL.out; simp; omega
  go_wp2_with fail
  clear t1 t2 t3 t4 t5 k5
  obtain ⟨wd, hwd⟩ : ∃ wd, wd = wc.alloc (.cells #[.slice (some ⟨g8, 0, none⟩) zs.length c8, .slice (some ⟨g9, 0, none⟩) zs.length c9, .slice (some ⟨ga, 0, none⟩) 12 12, .slice (some ⟨gb, 0, none⟩) 12 12, .slice (some ⟨g5, 0, none⟩) xs.length c5] 38) := ⟨_, rfl⟩
  have HBd := Lib.hid (show Below wc.heap.size wc wd by rw [hwd]; exact (Below.refl _ _).alloc (Nat.le_refl _) _)
  have hXd : wd.heap[wc.heap.size]? = some (.cells #[.slice (some ⟨g8, 0, none⟩) zs.length c8, .slice (some ⟨g9, 0, none⟩) zs.length c9, .slice (some ⟨ga, 0, none⟩) 12 12, .slice (some ⟨gb, 0, none⟩) 12 12, .slice (some ⟨g5, 0, none⟩) xs.length c5] 38 (0, 0)) := by rw [hwd]; exact alloc_at _ _
  rw [← hwd]
  clear hwd
  have z2 := HB4.out.size
  have z4 := HB6.out.size
  have z7 := HB7.out.size
  have zb := HBcb.out.size
  have zd := HBd.out.size
  have hR : Rws wd 5 wc.heap.size (fun i => [g8, g9, ga, gb, g5].getD i 0) (fun _ => 0) (fun i => [zs.length, zs.length, 12, 12, xs.length].getD i 0) (fun i => [c8, c9, 12, 12, c5].getD i 0) (fun i j => ([zs, zs, en, en, xs].getD i []).getD j 0) := by
    refine ⟨fun i hi => ?_, fun i hi => ?_, fun i hi => ?_, fun i j hi hj hn => ?_, fun i hi => ?_⟩
    · match i, hi with
      | 0, _ => exact cell_blk hXd rfl
      | 1, _ => exact cell_blk hXd rfl
      | 2, _ => exact cell_blk hXd rfl
      | 3, _ => exact cell_blk hXd rfl
      | 4, _ => exact cell_blk hXd rfl
      | k + 5, h => exact absurd h (by omega)
    · match i, hi with
      | 0, _ => exact HC89.out.below (by omega) (belowT HBc9.out HBd.out)
      | 1, _ => exact HC9.out.below (by omega) (belowT HBc9.out HBd.out)
      | 2, _ => exact HCa.out.below hga.2 (belowT HBca.out HBd.out)
      | 3, _ => exact HCb.out.below hgb.2 (belowT HBcb.out HBd.out)
      | 4, _ => exact (HY7.out.at_ (belowT HBc7.out HBd.out)).2.2
      | k + 5, h => exact absurd h (by omega)
    · rcases i with _ | _ | _ | _ | _ | i <;> first | (exfalso; omega) | (simp <;> omega)
    · rcases i with _ | _ | _ | _ | _ | i <;> rcases j with _ | _ | _ | _ | _ | j <;> first | (exfalso; omega) | (simp <;> omega)
    · rcases i with _ | _ | _ | _ | _ | i <;> first | (exfalso; omega) | (simp <;> omega)
  refine (apart_any 5 wc.heap.size w.heap.size _ _ _ _ _ hR (by omega) (fun i hi => ?_) (fun i hi => ?_) (by omega)).mono ?_
  · have := HZL.out
    rcases i with _ | _ | _ | _ | _ | i <;> first | (exfalso; omega) | (simp <;> omega)
  · rcases i with _ | _ | _ | _ | _ | i <;> first | (exfalso; omega) | (simp <;> omega)
  rintro e wf ⟨rfl, hbf⟩
  have HBf := Lib.hid (show Below w.heap.size w wf from (belowT (belowT (belowT (belowT HB4.out HB6.out) HB7.out) HBc7.out) HBd.out).trans hbf)
  clear hbf hR hXd
  go_wp2_with fail
  go_ret
  exact ⟨rfl, HBf.out⟩
end Go.Proofs.YtfddhipdedcacaaDoor
