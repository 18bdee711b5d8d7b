/-
 The reference's Bytes.
-/
import Derived.Test.YtidmgckmphcegaaGreatDoorMD
import Derived.Test.YtidmgckmphcegaaGreatDoorMB
import Derived.Test.YtidmgckmphcegaaGreatDoorMA
import Derived.Test.YtidmgckmphcegaaGreatDoorMW
namespace Go.Proofs.YtidmgckmphcegaaGreatDoor
open Go.RowKit Go.Proofs.YtidmgckmphcegaaGreatDoorW.PrintLast
set_option linter.unusedVariables false
set_option linter.unusedSimpArgs false
set_option maxRecDepth 100000 in
theorem rfbytes_yes (ver ty fl st ln : Int) (A : Option Addr) (n c : Nat) (xs : List Int) (w : World) (hB : Bs w A n c xs) (v0 : 0 ≤ ver) (v1 : ver ≤ 255) (t0 : 0 ≤ ty) (t1 : ty ≤ 255) (f0 : 0 ≤ fl) (f1 : fl ≤ 65535) (s0 : 0 ≤ st) (s1 : st ≤ 4294967295) (l0 : 0 ≤ ln) (l1 : ln ≤ 4294967295) (hne : (n : Int) = szF ty ln) :
    Calls Tryz.prog 64 #[frm ver ty fl st ln A n c] w fun e w' => ∃ v, e = .returned (.tuple #[v, .int .i64 0]) ∧ Own w' w.heap.size v (enc ver ty fl st ln ++ xs) ∧ Below w.heap.size w w' := by
 obtain ⟨w1, hw1⟩ : ∃ w1, w1 = w.alloc (.cells #[.int .u8 ver, .int .u8 ty, .int .u16 fl, .int .u32 st, .int .u32 ln, .slice A n c] 28) := ⟨_, rfl⟩
 have hx : w1.heap[w.heap.size]? = some (.cells #[.int .u8 ver, .int .u8 ty, .int .u16 fl, .int .u32 st, .int .u32 ln, .slice A n c] 28 (0, 0)) := by rw [hw1, alloc_at]
 have HB1 := Lib.hid (show Below w.heap.size w w1 by rw [hw1]; exact (Below.refl _ _).alloc (Nat.le_refl _) _)
 have e0 : w1.cell? ⟨w.heap.size, 0, none⟩ = some (.int .u8 ver) := cell_blk hx rfl
 have e1 : w1.cell? ⟨w.heap.size, 1, none⟩ = some (.int .u8 ty) := cell_blk hx rfl
 have e2 : w1.cell? ⟨w.heap.size, 2, none⟩ = some (.int .u16 fl) := cell_blk hx rfl
 have e3 : w1.cell? ⟨w.heap.size, 3, none⟩ = some (.int .u32 st) := cell_blk hx rfl
 have e4 : w1.cell? ⟨w.heap.size, 4, none⟩ = some (.int .u32 ln) := cell_blk hx rfl
 have e5 : w1.cell? ⟨w.heap.size, 5, none⟩ = some (.slice A n c) := cell_blk hx rfl
 have HE := Lib.hid hw1
 clear hw1 hx
 have HBs := Lib.hid hB
 have hnl : n ≤ 4294967295 := by unfold szF at hne; split at hne <;> omega
 have hd : ((n : Int) != szF ty ln) = false := by simp [hne]
 have hc : n ≤ c := hB.cap
 clear hB
 go_enter Tryz.func64, Tryz.ntmps64
 go_wp2_with fail
 rw [← HE.out]
 refine start_ (n := 7) (S := fun w' => w'.cell? ⟨w.heap.size, 0, none⟩ = some (.int .u8 ver) ∧ w'.cell? ⟨w.heap.size, 1, none⟩ = some (.int .u8 ty) ∧ w'.cell? ⟨w.heap.size, 2, none⟩ = some (.int .u16 fl) ∧ w'.cell? ⟨w.heap.size, 3, none⟩ = some (.int .u32 st) ∧ w'.cell? ⟨w.heap.size, 4, none⟩ = some (.int .u32 ln) ∧ w'.cell? ⟨w.heap.size, 5, none⟩ = some (.slice A n c) ∧ Hid (Below w.heap.size w w')) (ds := []) (bM 7 0) (by kernel_rfl) rfl rfl (⟨e0, e1, e2, e3, e4, e5, Lib.hid HB1.out.drew⟩) (fun hHeld => ?_)
 refine pu_ 0 4 ?_ (bM 7 1) rfl rfl (by kernel_rfl) (.inl ⟨by rfl, ?_⟩) ?_ ?_ ?_; rotate_left
 · intro w'; go_simp; with_reducible rfl
 rotate_left
 · simp only [pA_, i64_w]; rfl
 refine pu_ 3 7 ?_ (bM 7 9) rfl rfl (by kernel_rfl) (.inl ⟨by rfl, ?_⟩) ?_ ?_ ?_; rotate_left
 · intro w'; go_simp; with_reducible rfl
 rotate_left
 · simp only [pA_, i64_w]; rfl
 refine tk_ 1 5 ?_ (bM 7 11) rfl rfl (by kernel_rfl) (.inl ⟨by rfl, ?_⟩) hHeld ?_ ?_ ?_; rotate_left
 · rintro w' ⟨s0, s1, s2, s3, s4, s5, s6⟩; go_simp; with_reducible rfl
 rotate_left
 · simp only [pA_, i64_w]; rfl
 refine pu_ 2 6 ?_ (bM 7 15) rfl rfl (by kernel_rfl) (.inl ⟨by rfl, ?_⟩) ?_ ?_ ?_; rotate_left
 · intro w'; go_simp; with_reducible rfl
 rotate_left
 · simp only [pA_, i64_w]; rfl
 refine tk_ 4 8 ?_ (bM 7 31) rfl rfl (by kernel_rfl) (.inl ⟨by rfl, ?_⟩) hHeld ?_ ?_ ?_; rotate_left
 · rintro w' ⟨s0, s1, s2, s3, s4, s5, s6⟩; go_simp; with_reducible rfl
 rotate_left
 · simp only [pA_, i64_w]; rfl
 refine one_ (i := 5) (N := some 9) (bM 7 63) rfl rfl (by kernel_rfl) (by decide) (fun K hK => ?_)
 refine goes_ Tryz.func44 (by kernel_rfl) rfl #[hdr ver ty fl st ln] (by rfl) rfl rfl (by simp only [List.map_toArray, List.map_cons, List.map_nil]; rfl) ?_
 with_reducible refine (rsize_any ver ty fl st ln _ l0 l1).mono ?_
 rintro e w2 ⟨rfl, hb2⟩
 refine ⟨_, rfl, ?_⟩
 refine hK.out _ _ (⟨keepA hb2 hHeld.1, keepA hb2 hHeld.2.1, keepA hb2 hHeld.2.2.1, keepA hb2 hHeld.2.2.2.1, keepA hb2 hHeld.2.2.2.2.1, keepA hb2 hHeld.2.2.2.2.2.1, Lib.hid (belowT hHeld.2.2.2.2.2.2.out hb2)⟩) (fun hHeld => ?_)
 clear hK K
 refine norm_ (a' := ?_) ?_ ?_
 rotate_left
 · show Act.put _ (some 9) _ = _
   simp only [pA_, i64_w]
   rfl
 refine pu_ 6 10 ?_ (bM 7 127) rfl rfl (by kernel_rfl) (.inl ⟨by rfl, ?_⟩) ?_ ?_ ?_; rotate_left
 · intro w'; go_simp; with_reducible rfl
 rotate_left
 · simp only [pA_, i64_w]; rfl
 refine done_ (by kernel_rfl) ?_
 clear e0 e1 e2 e3 e4 e5
 obtain ⟨e0, e1, e2, e3, e4, e5, HB2⟩ := hHeld
 have HBs2 := Lib.hid (HBs.out.next HB2.out)
 have hz2 : w.heap.size ≤ w2.heap.size := HB2.out.size
 go_wp2_with fail
 refine start_ (n := 8) (S := fun w' => w'.cell? ⟨w.heap.size, 0, none⟩ = some (.int .u8 ver) ∧ w'.cell? ⟨w.heap.size, 1, none⟩ = some (.int .u8 ty) ∧ w'.cell? ⟨w.heap.size, 2, none⟩ = some (.int .u16 fl) ∧ w'.cell? ⟨w.heap.size, 3, none⟩ = some (.int .u32 st) ∧ w'.cell? ⟨w.heap.size, 4, none⟩ = some (.int .u32 ln) ∧ w'.cell? ⟨w.heap.size, 5, none⟩ = some (.slice A n c) ∧ Hid (Below w2.heap.size w2 w')) (ds := []) (bM 8 0) (by kernel_rfl) rfl rfl (⟨e0, e1, e2, e3, e4, e5, Lib.hid (Below.refl _ _).drew⟩) (fun hHeld => ?_)
 refine pu_ 0 11 ?_ (bM 8 1) rfl rfl (by kernel_rfl) (.inl ⟨by rfl, ?_⟩) ?_ ?_ ?_; rotate_left
 · intro w'; go_simp; with_reducible rfl
 rotate_left
 · simp only [pA_, i64_w]; rfl
 refine pu_ 3 14 ?_ (bM 8 9) rfl rfl (by kernel_rfl) (.inl ⟨by rfl, ?_⟩) ?_ ?_ ?_; rotate_left
 · intro w'; go_simp; with_reducible rfl
 rotate_left
 · simp only [pA_, i64_w]; rfl
 refine tk_ 1 12 ?_ (bM 8 11) rfl rfl (by kernel_rfl) (.inl ⟨by rfl, ?_⟩) hHeld ?_ ?_ ?_; rotate_left
 · rintro w' ⟨s0, s1, s2, s3, s4, s5, s6⟩; go_simp; with_reducible rfl
 rotate_left
 · simp only [pA_, i64_w]; rfl
 refine tk_ 4 15 ?_ (bM 8 27) rfl rfl (by kernel_rfl) (.inl ⟨by rfl, ?_⟩) hHeld ?_ ?_ ?_; rotate_left
 · rintro w' ⟨s0, s1, s2, s3, s4, s5, s6⟩; go_simp; with_reducible rfl
 rotate_left
 · simp only [pA_, i64_w]; rfl
 refine one_ (i := 2) (N := some 13) (bM 8 31) rfl rfl (by kernel_rfl) (by decide) (fun K hK => ?_)
 refine goes_ Tryz.func101 (by kernel_rfl) rfl #[hdr ver ty fl st ln] (by rfl) rfl rfl (by simp only [List.map_toArray, List.map_cons, List.map_nil]; rfl) ?_
 with_reducible refine (rencode_any ver ty fl st ln _ v0 v1 t0 t1 f0 f1 s0 s1 l0 l1).mono ?_
 rintro e w3 ⟨v3, rfl, ho3, hb3⟩
 refine ⟨_, rfl, ?_⟩
 have HO3 := Lib.hid ho3
 have HB3 := Lib.hid hb3
 clear ho3 hb3
 refine hK.out _ _ (⟨keepA HB3.out hHeld.1, keepA HB3.out hHeld.2.1, keepA HB3.out hHeld.2.2.1, keepA HB3.out hHeld.2.2.2.1, keepA HB3.out hHeld.2.2.2.2.1, keepA HB3.out hHeld.2.2.2.2.2.1, Lib.hid (belowT hHeld.2.2.2.2.2.2.out HB3.out)⟩) (fun hHeld => ?_)
 clear hK K
 refine norm_ (a' := ?_) ?_ ?_
 rotate_left
 · show Act.put _ (some 13) _ = _
   simp only [pA_, i64_w]
   rfl
 refine one_ (i := 5) (N := some 16) (bM 8 63) rfl rfl (by kernel_rfl) (by decide) (fun K hK => ?_)
 rw [if_pos (by rfl)]
 refine wp_append_bs (.tmp 13) (.tmp 15) rfl w2.heap.size v3 (enc ver ty fl st ln) rfl HO3.out A n c xs rfl (HBs2.out.next hHeld.2.2.2.2.2.2.out) (by simp [enc]; omega) hHeld.2.2.2.2.2.2.out.size ?_
 intro v4 w4 ho4 hg4 _
 have HO4 := Lib.hid ho4
 have HB4 := Lib.hid (hHeld.2.2.2.2.2.2.out.grown hg4 hHeld.2.2.2.2.2.2.out.size (fun k hk => (HO3.out.lt k hk).1))
 clear ho4 hg4
 refine hK.out _ _ (⟨keepA HB4.out e0, keepA HB4.out e1, keepA HB4.out e2, keepA HB4.out e3, keepA HB4.out e4, keepA HB4.out e5, HB4⟩) (fun hHeld => ?_)
 clear hK K
 refine norm_ (a' := ?_) ?_ ?_
 rotate_left
 · show Act.put _ (some 16) _ = _
   simp only [pA_, i64_w]
   rfl
 refine pu_ 6 2 ?_ (bM 8 127) rfl rfl (by kernel_rfl) (.inl ⟨by rfl, ?_⟩) ?_ ?_ ?_; rotate_left
 · intro w'; go_simp; with_reducible rfl
 rotate_left
 · simp only [pA_, i64_w]; rfl
 refine pu_ 7 3 ?_ (bM 8 255) rfl rfl (by kernel_rfl) (.inl ⟨by rfl, ?_⟩) ?_ ?_ ?_; rotate_left
 · intro w'; go_simp; with_reducible rfl
 rotate_left
 · simp only [pA_, i64_w]; rfl
 refine done_ (by kernel_rfl) ?_
 go_wp2_with fail
 go_ret2
 exact ⟨v4, rfl, ⟨HO4.out.1, by rcases HO4.out.2 with h | ⟨g, cap, cur, a, b, c⟩; exact .inl h; exact .inr ⟨g, cap, cur, a, by omega, c⟩⟩, HB2.out.trans (HB4.out.mono hz2)⟩
end Go.Proofs.YtidmgckmphcegaaGreatDoor
