/-
  The reference's Encode.
-/
import Derived.Test.YtfddhipdedcacaaDoorRBytes
import Derived.Test.YtfddhipdedcacaaDoorEnc
import Derived.Test.YtfddhipdedcacaaDoorBs
namespace Go.Proofs.YtfddhipdedcacaaDoor
open Go.RowKit
set_option linter.unusedVariables false
set_option linter.unusedSimpArgs false
theorem row_bs {w : World} {base g : Nat} {n : Nat} {xs : List Int} (h : w.ownsRow base 5 1 (.slice (some ⟨g, 0, none⟩) n n) n (nums .u8 xs)) (hx : ∀ x ∈ xs, 0 ≤ x ∧ x ≤ 255) (hl : xs.length = n) (hn : n ≤ 100) : Bs w (some ⟨g, 0, none⟩) n n xs :=
  ⟨hl, Nat.le_refl _, by omega, hx, (fun e => by cases e), fun h0 => ⟨g, 0, rfl, fun j hj => by
    rw [Nat.zero_add, h.cellAt j (by omega)]
    simp [nums, List.getD_eq_getElem?_getD, List.getElem?_eq_getElem (show j < xs.length by omega)]⟩⟩

set_option maxRecDepth 100000 in
set_option maxHeartbeats 1000000 in
theorem rencode_any (ver ty fl st ln : Int) (w : World) (v0 : 0 ≤ ver) (v255 : ver ≤ 255) (t0 : 0 ≤ ty) (t1 : ty ≤ 255) (f0 : 0 ≤ fl) (f1 : fl ≤ 65535) (s0 : 0 ≤ st) (s1 : st ≤ 4294967295) (l0 : 0 ≤ ln) (l1 : ln ≤ 4294967295) :
    Calls Tryd.prog 42 #[hdr ver ty fl st ln] w fun e w' => ∃ v, e = .returned v ∧ Own w' w.heap.size v (enc ver ty fl st ln) ∧ Below w.heap.size w w' := by
  obtain ⟨w1, hw1⟩ : ∃ w1, w1 = (w.alloc (.cells #[.int .u8 ver, .int .u8 ty, .int .u16 fl, .int .u32 st, .int .u32 ln] 26)).alloc (.cells #[.int .u8 ver, .int .u8 ty] 5) := ⟨_, rfl⟩
  have hH1 : w1.heap[w.heap.size]? = some (.cells #[.int .u8 ver, .int .u8 ty, .int .u16 fl, .int .u32 st, .int .u32 ln] 26 (0, 0)) := by rw [hw1, blk_old _ (by simp), alloc_at]
  have hO1 : Own w1 (w.heap.size + 1) (.slice (some ⟨w.heap.size + 1, 0, none⟩) 2 2) [ver, ty] := by
    have := own_new (w.alloc (.cells #[.int .u8 ver, .int .u8 ty, .int .u16 fl, .int .u32 st, .int .u32 ln] 26)) (w.heap.size + 1) [ver, ty] (by simp) (by simp)
    rw [hw1]
    simpa [nums] using this
  have hB1 : Below w.heap.size w w1 := by rw [hw1]; exact ((Below.refl _ _).alloc (Nat.le_refl _) _).alloc (by simp) _
  have hZ1 : w.heap.size + 2 ≤ w1.heap.size := by rw [hw1]; simp
  have HH1 := Lib.hid hH1
  have HO1 := Lib.hid hO1
  have HB1 := Lib.hid hB1
  have HE := Lib.hid hw1
  clear hH1 hO1 hB1 hw1
  go_enter Tryd.func42, Tryd.ntmps42
  go_wp2_with fail
  rw [← HE.out]
  clear HE
  refine (rbytes2 fl w1 f0 f1).mono ?_
  rintro e w2 ⟨g1, rfl, ho2, hb2⟩
  have Ho1 := Lib.hid ho2
  have HH2 := Lib.hid ((hb2.block _ (by omega)).trans HH1.out)
  have HO2 := Lib.hid (HO1.out.next hb2)
  have HB2 := Lib.hid (HB1.out.trans (hb2.mono (by omega)))
  have hZ2 : w.heap.size + 2 ≤ w2.heap.size := by have := hb2.size; omega
  clear ho2 hb2
  go_wp2_with (at_builtin; refine wpList_append_bs rfl _ _ rfl (w.heap.size + 1) (.slice (some ⟨w.heap.size + 1, 0, none⟩) 2 2) [ver, ty] rfl HO2.out _ _ _ [fl / 256, fl % 256] rfl (row_bs Ho1.out (by simp; omega) rfl (by omega)) (by simp) (by omega) ?_; intro v3 w3 ho3 hg3 hz3; have HH3 := Lib.hid (grown_blk hg3 (fun e => by have := (HO2.out.lt _ e).1; omega) HH2.out); have HO3 := Lib.hid ho3; have HB3 := Lib.hid (HB2.out.grown hg3 (by omega) (fun k hk => by have := (HO2.out.lt _ hk).1; omega)); have hZ3 : w.heap.size + 2 ≤ w3.heap.size := (by have := hg3.size; omega); have e3 : w3.cell? ⟨w.heap.size, 3, none⟩ = some (.int .u32 st) := cell_blk HH3.out rfl; clear ho3 hg3 hz3)
  refine (rbytes4 st w3 s0 s1).mono ?_
  rintro e w4 ⟨g2, rfl, ho4, hb4⟩
  have Ho3 := Lib.hid ho4
  have HH4 := Lib.hid ((hb4.block _ (by omega)).trans HH3.out)
  have HO4 := Lib.hid (HO3.out.next hb4)
  have HB4 := Lib.hid (HB3.out.trans (hb4.mono (by omega)))
  have hZ4 : w.heap.size + 2 ≤ w4.heap.size := by have := hb4.size; omega
  clear ho4 hb4
  go_wp2_with (at_builtin; refine wpList_append_bs rfl _ _ rfl (w.heap.size + 1) v3 ([ver, ty] ++ [fl / 256, fl % 256]) rfl HO4.out _ _ _ [st / 16777216, st / 65536 % 256, st / 256 % 256, st % 256] rfl (row_bs Ho3.out (by simp; omega) rfl (by omega)) (by simp) (by omega) ?_; intro v5 w5 ho5 hg5 hz5; have HH5 := Lib.hid (grown_blk hg5 (fun e => by have := (HO4.out.lt _ e).1; omega) HH4.out); have HO5 := Lib.hid ho5; have HB5 := Lib.hid (HB4.out.grown hg5 (by omega) (fun k hk => by have := (HO4.out.lt _ hk).1; omega)); have hZ5 : w.heap.size + 2 ≤ w5.heap.size := (by have := hg5.size; omega); have e5 : w5.cell? ⟨w.heap.size, 4, none⟩ = some (.int .u32 ln) := cell_blk HH5.out rfl; clear ho5 hg5 hz5)
  refine (rbytes4 ln w5 l0 l1).mono ?_
  rintro e w6 ⟨g3, rfl, ho6, hb6⟩
  have Ho5 := Lib.hid ho6
  have HH6 := Lib.hid ((hb6.block _ (by omega)).trans HH5.out)
  have HO6 := Lib.hid (HO5.out.next hb6)
  have HB6 := Lib.hid (HB5.out.trans (hb6.mono (by omega)))
  have hZ6 : w.heap.size + 2 ≤ w6.heap.size := by have := hb6.size; omega
  clear ho6 hb6
  go_wp2_with (at_builtin; refine wpList_append_bs rfl _ _ rfl (w.heap.size + 1) v5 ([ver, ty] ++ [fl / 256, fl % 256] ++ [st / 16777216, st / 65536 % 256, st / 256 % 256, st % 256]) rfl HO6.out _ _ _ [ln / 16777216, ln / 65536 % 256, ln / 256 % 256, ln % 256] rfl (row_bs Ho5.out (by simp; omega) rfl (by omega)) (by simp) (by omega) ?_; intro v7 w7 ho7 hg7 hz7; have HH7 := Lib.hid (grown_blk hg7 (fun e => by have := (HO6.out.lt _ e).1; omega) HH6.out); have HO7 := Lib.hid ho7; have HB7 := Lib.hid (HB6.out.grown hg7 (by omega) (fun k hk => by have := (HO6.out.lt _ hk).1; omega)); have hZ7 : w.heap.size + 2 ≤ w7.heap.size := (by have := hg7.size; omega); clear ho7 hg7 hz7)
  go_ret
  refine ⟨v7, rfl, ?_, HB7.out⟩
  have h := HO7.out
  exact ⟨h.1, by rcases h.2 with h | ⟨g, cap, cur, a, b, c⟩; exact .inl h; exact .inr ⟨g, cap, cur, a, by omega, c⟩⟩
end Go.Proofs.YtfddhipdedcacaaDoor
