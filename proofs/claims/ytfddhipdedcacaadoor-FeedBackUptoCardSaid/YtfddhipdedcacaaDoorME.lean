import Derived.Test.YtfddhipdedcacaaDoorMB
import Derived.Test.YtfddhipdedcacaaDoorMA
import Derived.Deep.RegionLaw
import Derived.Lib.QuietBelow
import Derived.Test.YtfddhipdedcacaaDoorMC
/-
  culvertref01.Bytes.
-/
namespace Go.Proofs.YtfddhipdedcacaaDoor
open Go.RowKit
set_option linter.unusedVariables false
set_option linter.unusedSimpArgs false
set_option maxRecDepth 100000 in
set_option maxHeartbeats 1000000 in
theorem rbytes2 (v : Int) (w : World) (h0 : 0 ≤ v) (h1 : v ≤ 65535) :
    Calls Tryd.prog 60 #[.int .i64 v, .int .i64 2] w fun e w' => ∃ g, e = .returned (.slice (some ⟨g, 0, none⟩) 2 2) ∧ w'.ownsRow w.heap.size 5 1 (.slice (some ⟨g, 0, none⟩) 2 2) 2 (nums .u8 [v / 256, v % 256]) ∧ Below w.heap.size w w' := by
  have hmk : ∀ w : World, (Instr.makeSlice 38 (.int .i64 2) (.int .i64 2)).run Tryd.prog w = .ok (.slice (some ⟨w.heap.size, 0, none⟩) 2 2) (w.alloc (.cells #[.int .u8 0, .int .u8 0] 5)) := fun _ => by kernel_rfl
  go_enter Tryd.func60, Tryd.ntmps60
  go_wp2_with fail
  refine wp_loop_rounds 3 ?_
  rw [rounds_succ]
  go_wp2_with fail
  rw [rounds_succ]
  go_wp2_with fail
  rw [rounds_succ]
  go_wp2_with fail
  go_ret
  refine ⟨_, rfl, own_block (Nat.le_refl _) (alloc_at _ _) ?_ rfl (by unfold maxLen; omega), (Below.refl _ _).alloc (Nat.le_refl _) _⟩
  simp [nums]
  omega
set_option maxRecDepth 100000 in
set_option maxHeartbeats 1000000 in
theorem rbytes4 (v : Int) (w : World) (h0 : 0 ≤ v) (h1 : v ≤ 4294967295) :
    Calls Tryd.prog 60 #[.int .i64 v, .int .i64 4] w fun e w' => ∃ g, e = .returned (.slice (some ⟨g, 0, none⟩) 4 4) ∧ w'.ownsRow w.heap.size 5 1 (.slice (some ⟨g, 0, none⟩) 4 4) 4 (nums .u8 [v / 16777216, v / 65536 % 256, v / 256 % 256, v % 256]) ∧ Below w.heap.size w w' := by
  have hmk : ∀ w : World, (Instr.makeSlice 38 (.int .i64 4) (.int .i64 4)).run Tryd.prog w = .ok (.slice (some ⟨w.heap.size, 0, none⟩) 4 4) (w.alloc (.cells #[.int .u8 0, .int .u8 0, .int .u8 0, .int .u8 0] 5)) := fun _ => by kernel_rfl
  go_enter Tryd.func60, Tryd.ntmps60
  go_wp2_with fail
  refine wp_loop_rounds 5 ?_
  rw [rounds_succ]
  go_wp2_with fail
  rw [rounds_succ]
  go_wp2_with fail
  rw [rounds_succ]
  go_wp2_with fail
  rw [rounds_succ]
  go_wp2_with fail
  rw [rounds_succ]
  go_wp2_with fail
  go_ret
  refine ⟨_, rfl, own_block (Nat.le_refl _) (alloc_at _ _) ?_ rfl (by unfold maxLen; omega), (Below.refl _ _).alloc (Nat.le_refl _) _⟩
  simp [nums]
  omega
end Go.Proofs.YtfddhipdedcacaaDoor
/-
  The reference's Encode.
-/
namespace Go.Proofs.YtfddhipdedcacaaDoor
open Go.RowKit
set_option linter.unusedVariables false
set_option linter.unusedSimpArgs false
theorem row_bs {w : World} {base g : Nat} {n : Nat} {xs : List Int} (h : w.ownsRow base 5 1 (.slice (some ⟨g, 0, none⟩) n n) n (nums .u8 xs)) (hx : ∀ x ∈ xs, 0 ≤ x ∧ x ≤ 255) (hl : xs.length = n) (hn : n ≤ 100) : Bs w (some ⟨g, 0, none⟩) n n xs :=
  ⟨hl, Nat.le_refl _, by omega, hx, (fun e => by cases e), fun h0 => ⟨g, 0, rfl, fun j hj => by
    rw [Nat.zero_add, h.cellAt j (by omega)]
    simp [nums, List.getD_eq_getElem?_getD, List.getElem?_eq_getElem (show j < xs.length by omega)]⟩⟩

set_option maxRecDepth 100000 in
set_option maxHeartbeats 1000000 in
theorem rencode_any (ver ty fl st ln : Int) (w : World) (v0 : 0 ≤ ver) (v255 : ver ≤ 255) (t0 : 0 ≤ ty) (t1 : ty ≤ 255) (f0 : 0 ≤ fl) (f1 : fl ≤ 65535) (s0 : 0 ≤ st) (s1 : st ≤ 4294967295) (l0 : 0 ≤ ln) (l1 : ln ≤ 4294967295) :
    Calls Tryd.prog 42 #[hdr ver ty fl st ln] w fun e w' => ∃ v, e = .returned v ∧ Own w' w.heap.size v (enc ver ty fl st ln) ∧ Below w.heap.size w w' := by
  obtain ⟨w1, hw1⟩ : ∃ w1, w1 = (w.alloc (.cells #[.int .u8 ver, .int .u8 ty, .int .u16 fl, .int .u32 st, .int .u32 ln] 26)).alloc (.cells #[.int .u8 ver, .int .u8 ty] 5) := ⟨_, rfl⟩
  have hH1 : w1.heap[w.heap.size]? = some (.cells #[.int .u8 ver, .int .u8 ty, .int .u16 fl, .int .u32 st, .int .u32 ln] 26 (0, 0)) := by rw [hw1, blk_old _ (by simp), alloc_at]
  have hO1 : Own w1 (w.heap.size + 1) (.slice (some ⟨w.heap.size + 1, 0, none⟩) 2 2) [ver, ty] := by
    have := own_new (w.alloc (.cells #[.int .u8 ver, .int .u8 ty, .int .u16 fl, .int .u32 st, .int .u32 ln] 26)) (w.heap.size + 1) [ver, ty] (by simp) (by simp)
    rw [hw1]
    simpa [nums] using this
  have hB1 : Below w.heap.size w w1 := by rw [hw1]; exact ((Below.refl _ _).alloc (Nat.le_refl _) _).alloc (by simp) _
  have hZ1 : w.heap.size + 2 ≤ w1.heap.size := by rw [hw1]; simp
  have HH1 := Lib.hid hH1
  have HO1 := Lib.hid hO1
  have HB1 := Lib.hid hB1
  have HE := Lib.hid hw1
  clear hH1 hO1 hB1 hw1
  go_enter Tryd.func42, Tryd.ntmps42
  go_wp2_with fail
  rw [← HE.out]
  clear HE
  refine (rbytes2 fl w1 f0 f1).mono ?_
  rintro e w2 ⟨g1, rfl, ho2, hb2⟩
  have Ho1 := Lib.hid ho2
  have HH2 := Lib.hid ((hb2.block _ (by omega)).trans HH1.out)
  have HO2 := Lib.hid (HO1.out.next hb2)
  have HB2 := Lib.hid (HB1.out.trans (hb2.mono (by omega)))
  have hZ2 : w.heap.size + 2 ≤ w2.heap.size := by have := hb2.size; omega
  clear ho2 hb2
  go_wp2_with (at_builtin; refine wpList_append_bs rfl _ _ rfl (w.heap.size + 1) (.slice (some ⟨w.heap.size + 1, 0, none⟩) 2 2) [ver, ty] rfl HO2.out _ _ _ [fl / 256, fl % 256] rfl (row_bs Ho1.out (by simp; omega) rfl (by omega)) (by simp) (by omega) ?_; intro v3 w3 ho3 hg3 hz3; have HH3 := Lib.hid (grown_blk hg3 (fun e => by have := (HO2.out.lt _ e).1; omega) HH2.out); have HO3 := Lib.hid ho3; have HB3 := Lib.hid (HB2.out.grown hg3 (by omega) (fun k hk => by have := (HO2.out.lt _ hk).1; omega)); have hZ3 : w.heap.size + 2 ≤ w3.heap.size := (by have := hg3.size; omega); have e3 : w3.cell? ⟨w.heap.size, 3, none⟩ = some (.int .u32 st) := cell_blk HH3.out rfl; clear ho3 hg3 hz3)
  refine (rbytes4 st w3 s0 s1).mono ?_
  rintro e w4 ⟨g2, rfl, ho4, hb4⟩
  have Ho3 := Lib.hid ho4
  have HH4 := Lib.hid ((hb4.block _ (by omega)).trans HH3.out)
  have HO4 := Lib.hid (HO3.out.next hb4)
  have HB4 := Lib.hid (HB3.out.trans (hb4.mono (by omega)))
  have hZ4 : w.heap.size + 2 ≤ w4.heap.size := by have := hb4.size; omega
  clear ho4 hb4
  go_wp2_with (at_builtin; refine wpList_append_bs rfl _ _ rfl (w.heap.size + 1) v3 ([ver, ty] ++ [fl / 256, fl % 256]) rfl HO4.out _ _ _ [st / 16777216, st / 65536 % 256, st / 256 % 256, st % 256] rfl (row_bs Ho3.out (by simp; omega) rfl (by omega)) (by simp) (by omega) ?_; intro v5 w5 ho5 hg5 hz5; have HH5 := Lib.hid (grown_blk hg5 (fun e => by have := (HO4.out.lt _ e).1; omega) HH4.out); have HO5 := Lib.hid ho5; have HB5 := Lib.hid (HB4.out.grown hg5 (by omega) (fun k hk => by have := (HO4.out.lt _ hk).1; omega)); have hZ5 : w.heap.size + 2 ≤ w5.heap.size := (by have := hg5.size; omega); have e5 : w5.cell? ⟨w.heap.size, 4, none⟩ = some (.int .u32 ln) := cell_blk HH5.out rfl; clear ho5 hg5 hz5)
  refine (rbytes4 ln w5 l0 l1).mono ?_
  rintro e w6 ⟨g3, rfl, ho6, hb6⟩
  have Ho5 := Lib.hid ho6
  have HH6 := Lib.hid ((hb6.block _ (by omega)).trans HH5.out)
  have HO6 := Lib.hid (HO5.out.next hb6)
  have HB6 := Lib.hid (HB5.out.trans (hb6.mono (by omega)))
  have hZ6 : w.heap.size + 2 ≤ w6.heap.size := by have := hb6.size; omega
  clear ho6 hb6
  go_wp2_with (at_builtin; refine wpList_append_bs rfl _ _ rfl (w.heap.size + 1) v5 ([ver, ty] ++ [fl / 256, fl % 256] ++ [st / 16777216, st / 65536 % 256, st / 256 % 256, st % 256]) rfl HO6.out _ _ _ [ln / 16777216, ln / 65536 % 256, ln / 256 % 256, ln % 256] rfl (row_bs Ho5.out (by simp; omega) rfl (by omega)) (by simp) (by omega) ?_; intro v7 w7 ho7 hg7 hz7; have HH7 := Lib.hid (grown_blk hg7 (fun e => by have := (HO6.out.lt _ e).1; omega) HH6.out); have HO7 := Lib.hid ho7; have HB7 := Lib.hid (HB6.out.grown hg7 (by omega) (fun k hk => by have := (HO6.out.lt _ hk).1; omega)); have hZ7 : w.heap.size + 2 ≤ w7.heap.size := (by have := hg7.size; omega); clear ho7 hg7 hz7)
  go_ret
  refine ⟨v7, rfl, ?_, HB7.out⟩
  have h := HO7.out
  exact ⟨h.1, by rcases h.2 with h | ⟨g, cap, cur, a, b, c⟩; exact .inl h; exact .inr ⟨g, cap, cur, a, by omega, c⟩⟩
end Go.Proofs.YtfddhipdedcacaaDoor
/-
  frame.Bytes and the reference's Bytes.
-/
namespace Go.Proofs.YtfddhipdedcacaaDoor
open Go.RowKit
set_option linter.unusedVariables false
set_option linter.unusedSimpArgs false
/-- A frame, as a value. -/
abbrev frm (ver ty fl st ln : Int) (A : Option Addr) (n c : Nat) : Value := .agg #[.int .u8 ver, .int .u8 ty, .int .u16 fl, .int .u32 st, .int .u32 ln, .slice A n c]
set_option maxRecDepth 100000 in
set_option maxHeartbeats 1000000 in
theorem fbytes_yes (ver ty fl st ln : Int) (A : Option Addr) (n c : Nat) (xs : List Int) (w : World) (hB : Bs w A n c xs) (f0 : 0 ≤ fl) (f1 : fl ≤ 65535) (s0 : 0 ≤ st) (s1 : st ≤ 4294967295) (l0 : 0 ≤ ln) (l1 : ln ≤ 4294967295) (hne : (n : Int) = szF ty ln) :
    Calls Tryd.prog 27 #[frm ver ty fl st ln A n c] w fun e w' => ∃ v, e = .returned (.tuple #[v, .nilIface]) ∧ Own w' w.heap.size v (enc ver ty fl st ln ++ xs) ∧ Below w.heap.size w w' := by
  obtain ⟨w1, hw1⟩ : ∃ w1, w1 = w.alloc (.cells #[.int .u8 ver, .int .u8 ty, .int .u16 fl, .int .u32 st, .int .u32 ln, .slice A n c] 45) := ⟨_, rfl⟩
  have hx : w1.heap[w.heap.size]? = some (.cells #[.int .u8 ver, .int .u8 ty, .int .u16 fl, .int .u32 st, .int .u32 ln, .slice A n c] 45 (0, 0)) := by rw [hw1, alloc_at]
  have hB1 : Below w.heap.size w w1 := by rw [hw1]; exact (Below.refl _ _).alloc (Nat.le_refl _) _
  have e0 : w1.cell? ⟨w.heap.size, 0, none⟩ = some (.int .u8 ver) := cell_blk hx rfl
  have e1 : w1.cell? ⟨w.heap.size, 1, none⟩ = some (.int .u8 ty) := cell_blk hx rfl
  have e2 : w1.cell? ⟨w.heap.size, 2, none⟩ = some (.int .u16 fl) := cell_blk hx rfl
  have e3 : w1.cell? ⟨w.heap.size, 3, none⟩ = some (.int .u32 st) := cell_blk hx rfl
  have e4 : w1.cell? ⟨w.heap.size, 4, none⟩ = some (.int .u32 ln) := cell_blk hx rfl
  have e5 : w1.cell? ⟨w.heap.size, 5, none⟩ = some (.slice A n c) := cell_blk hx rfl
  have k0 := cell_regrown e0
  have k1 := cell_regrown e1
  have k2 := cell_regrown e2
  have k3 := cell_regrown e3
  have k4 := cell_regrown e4
  have k5 := cell_regrown e5
  have cS : ∀ d os, Calls Tryd.prog 43 #[hdr ver ty fl st ln] (Go.Sort.grow (redrawn w1 d) os) fun e w'' => e = .returned (.int .i64 (szF ty ln)) ∧ ∃ p : Regrown, w'' = Go.Sort.grow (redrawn w1 p.d) p.os := fun d os => Calls.regrown_of (size_any ver ty fl st ln _ l0 l1)
  have HE := Lib.hid hw1
  have HX := Lib.hid hx
  have HB1 := Lib.hid hB1
  clear hw1 hx hB1
  go_enter Tryd.func27, Tryd.ntmps27
  go_wp2_with fail
  rw [← HE.out]
  refine wp_region_quiet_below (by kernel_rfl) (by kernel_rfl) ?_
  repeat (quiet_step (with_reducible exact cS _ _))
  refine wpQuiet_nil ?_
  intro _ hw'
  obtain ⟨⟨dq, osq⟩, hw''⟩ := hw'
  have hb12 : Below w1.heap.size w1 (Go.Sort.grow (redrawn w1 dq) osq) := below_regrown w1 dq osq
  rw [← hw''] at hb12
  clear hw'' cS k0 k1 k2 k3 k4 k5 e0 e1 e2 e3 e4 e5
  rename World => w2
  have HX2 := Lib.hid ((hb12.block _ (Array.getElem?_eq_some_iff.1 HX.out).1).trans HX.out)
  have HB2 := Lib.hid (HB1.out.trans (hb12.mono HB1.out.size))
  clear hb12 HX
  have hd : ((n : Int) != szF ty ln) = false := by simp [hne]
  have e0 : w2.cell? ⟨w.heap.size, 0, none⟩ = some (.int .u8 ver) := cell_blk HX2.out rfl
  have e1 : w2.cell? ⟨w.heap.size, 1, none⟩ = some (.int .u8 ty) := cell_blk HX2.out rfl
  have e2 : w2.cell? ⟨w.heap.size, 2, none⟩ = some (.int .u16 fl) := cell_blk HX2.out rfl
  have e3 : w2.cell? ⟨w.heap.size, 3, none⟩ = some (.int .u32 st) := cell_blk HX2.out rfl
  have e4 : w2.cell? ⟨w.heap.size, 4, none⟩ = some (.int .u32 ln) := cell_blk HX2.out rfl
  have e5 : w2.cell? ⟨w.heap.size, 5, none⟩ = some (.slice A n c) := cell_blk HX2.out rfl
  have hnl : n ≤ 4294967295 := by unfold szF at hne; split at hne <;> omega
  have HBs := Lib.hid hB
  have hszB := HB2.out.size
  have hcE : ∀ W, Calls Tryd.prog 28 #[hdr ver ty fl st ln] W _ := fun W => encode_any ver ty fl st ln W f0 f1 s0 s1 l0 l1
  clear hB
  go_wp2_with fail
  go_region_law (first
    | (go_simp; go_at_call 28; refine (hcE _).mono ?_; rintro e w3 ⟨g3, rfl, ho3, hb3⟩; have HO3 : Hid (Own w3 w2.heap.size (.slice (some ⟨g3, 0, none⟩) 12 12) (enc ver ty fl st ln)) := ho3; have HB23 := Lib.hid ((Below.refl w2.heap.size w2).drew.trans hb3); have hz3 := hb3.size; have d5 : w3.cell? ⟨w.heap.size, 5, none⟩ = some (.slice A n c) := cell_blk ((HB23.out.block _ (Array.getElem?_eq_some_iff.1 HX2.out).1).trans HX2.out) rfl; have HBs3 := Lib.hid ((HBs.out.next (HB2.out)).next HB23.out); clear ho3 hb3)
    | (refine step_append_bs rfl (.tmp 14) (.tmp 16) rfl w2.heap.size (.slice (some ⟨g3, 0, none⟩) 12 12) (enc ver ty fl st ln) (by simp [Act.eval, Act.put]) HO3.out A n c xs (by simp [Act.eval, Act.put]) HBs3.out (by simp [enc]; omega) (by simpa using hz3) ?_; intro v4 w4 ho4 hg4 hz4; have HO4 := Lib.hid ho4; have HB4 := Lib.hid (HB23.out.grown hg4 (by simpa using hz3) (fun k hk => (HO3.out.lt k hk).1)); clear ho4 hg4 hz4))
  all_goals
    go_wp2_with fail
    go_ret2
    exact ⟨v4, rfl, ⟨HO4.out.1, by rcases HO4.out.2 with h | ⟨g, cap, cur, a, b, c⟩; exact .inl h; exact .inr ⟨g, cap, cur, a, by omega, c⟩⟩, HB2.out.trans (HB4.out.mono hszB)⟩
set_option maxRecDepth 100000 in
set_option maxHeartbeats 1000000 in
theorem fbytes_no {sa : Nat → Addr} (ver ty fl st ln : Int) (A : Option Addr) (n c : Nat) (xs : List Int) (w : World) (hG : Good w sa) (hB : Bs w A n c xs) (f0 : 0 ≤ fl) (f1 : fl ≤ 65535) (s0 : 0 ≤ st) (s1 : st ≤ 4294967295) (l0 : 0 ≤ ln) (l1 : ln ≤ 4294967295) (hne : ¬ (n : Int) = szF ty ln) :
    Calls Tryd.prog 27 #[frm ver ty fl st ln A n c] w fun e w' => e = .returned (.tuple #[.slice none 0 0, sv (sa 15)]) ∧ Below w.heap.size w w' := by
  obtain ⟨w1, hw1⟩ : ∃ w1, w1 = w.alloc (.cells #[.int .u8 ver, .int .u8 ty, .int .u16 fl, .int .u32 st, .int .u32 ln, .slice A n c] 45) := ⟨_, rfl⟩
  have hx : w1.heap[w.heap.size]? = some (.cells #[.int .u8 ver, .int .u8 ty, .int .u16 fl, .int .u32 st, .int .u32 ln, .slice A n c] 45 (0, 0)) := by rw [hw1, alloc_at]
  have hB1 : Below w.heap.size w w1 := by rw [hw1]; exact (Below.refl _ _).alloc (Nat.le_refl _) _
  have e0 : w1.cell? ⟨w.heap.size, 0, none⟩ = some (.int .u8 ver) := cell_blk hx rfl
  have e1 : w1.cell? ⟨w.heap.size, 1, none⟩ = some (.int .u8 ty) := cell_blk hx rfl
  have e2 : w1.cell? ⟨w.heap.size, 2, none⟩ = some (.int .u16 fl) := cell_blk hx rfl
  have e3 : w1.cell? ⟨w.heap.size, 3, none⟩ = some (.int .u32 st) := cell_blk hx rfl
  have e4 : w1.cell? ⟨w.heap.size, 4, none⟩ = some (.int .u32 ln) := cell_blk hx rfl
  have e5 : w1.cell? ⟨w.heap.size, 5, none⟩ = some (.slice A n c) := cell_blk hx rfl
  have k0 := cell_regrown e0
  have k1 := cell_regrown e1
  have k2 := cell_regrown e2
  have k3 := cell_regrown e3
  have k4 := cell_regrown e4
  have k5 := cell_regrown e5
  have cS : ∀ d os, Calls Tryd.prog 43 #[hdr ver ty fl st ln] (Go.Sort.grow (redrawn w1 d) os) fun e w'' => e = .returned (.int .i64 (szF ty ln)) ∧ ∃ p : Regrown, w'' = Go.Sort.grow (redrawn w1 p.d) p.os := fun d os => Calls.regrown_of (size_any ver ty fl st ln _ l0 l1)
  have HE := Lib.hid hw1
  have HX := Lib.hid hx
  have HB1 := Lib.hid hB1
  clear hw1 hx hB1
  go_enter Tryd.func27, Tryd.ntmps27
  go_wp2_with fail
  rw [← HE.out]
  refine wp_region_quiet_below (by kernel_rfl) (by kernel_rfl) ?_
  repeat (quiet_step (with_reducible exact cS _ _))
  refine wpQuiet_nil ?_
  intro _ hw'
  obtain ⟨⟨dq, osq⟩, hw''⟩ := hw'
  have hb12 : Below w1.heap.size w1 (Go.Sort.grow (redrawn w1 dq) osq) := below_regrown w1 dq osq
  rw [← hw''] at hb12
  clear hw'' cS k0 k1 k2 k3 k4 k5 e0 e1 e2 e3 e4 e5
  rename World => w2
  have HX2 := Lib.hid ((hb12.block _ (Array.getElem?_eq_some_iff.1 HX.out).1).trans HX.out)
  have HB2 := Lib.hid (HB1.out.trans (hb12.mono HB1.out.size))
  clear hb12 HX
  have hG2 := Lib.hid (hG.below HB2.out)
  clear hG
  have hd : ((n : Int) != szF ty ln) = true := by simp [hne]
  have g15 := (hG2.out.at_ 15 (by omega) (by omega)).glob
  simp only [sgb] at g15
  go_wp2_with fail
  go_region
  all_goals
    go_wp2_with fail
    go_ret2
    exact ⟨rfl, HB2.out.drew⟩
end Go.Proofs.YtfddhipdedcacaaDoor
/-
  frame.Bytes of a frame whose payload is only read.
-/
namespace Go.Proofs.YtfddhipdedcacaaDoor
open Go.RowKit Go.Proofs.YtfddhipdedcacaaDoorW.PrintWords Go.Proofs.YtfddhipdedcacaaDoorW.PrintLast
set_option linter.unusedVariables false
set_option linter.unusedSimpArgs false
theorem C_cells {w : World} {A : Option Addr} {n : Nat} {xs : List Int} (h : (Kd.int .u8).C w A n xs) (hn : 0 < n) : ∃ ad, A = some ad ∧ ∀ j u, (nums .u8 xs)[j]? = some u → w.cell? (ad.add j) = some u := by
  obtain ⟨ad, rfl, hc⟩ := h.2.2 hn
  refine ⟨ad, rfl, fun j u hu => ?_⟩
  have hj : j < xs.length := by have := (List.getElem?_eq_some_iff.1 hu).1; rwa [nums_length] at this
  obtain ⟨cs, _, hk, hcc⟩ := hc j xs[j] (List.getElem?_eq_getElem hj)
  obtain rfl : cs = [.int .u8 xs[j]] := hk
  have e : (Kd.int .u8).sz = 1 := rfl
  have h2 := hcc 0 _ rfl
  rw [e, Nat.mul_one, Nat.add_zero] at h2
  rw [h2, ← hu]
  simp [nums, List.getElem?_eq_getElem hj]
theorem C_below {w w1 : World} {A : Option Addr} {n : Nat} {xs : List Int} (h : (Kd.int .u8).C w A n xs) (hb : Below w.heap.size w w1) : (Kd.int .u8).C w1 A n xs := Kd.Heap.C (Kd.heap_int .u8) (fun k hk => hb.block k hk) h
theorem wp_append_C {w : World} {o : Oper} {a : Act} {K : Act → World → Prop} {Q : Exit → Act → World → Prop} (s x : Operand)
    (ho : o.op = .call { callee := .builtin .append, args := #[s, x], argTypes := #[38, 38] })
    (base : Nat) (v : Value) (ys : List Int) (hs : a.eval s = v) (hown : Own w base v ys) (A : Option Addr) (n c : Nat) (xs : List Int) (hx : a.eval x = .slice A n c) (hC : (Kd.int .u8).C w A n xs)
    (h63 : ys.length + n ≤ 140737488355328) (hbase : base ≤ w.heap.size)
    (h : ∀ v' w', Own w' base v' (ys ++ xs) → w.grownBy w' v.ownBlock → K (a.put o.dst v') w') : o.wp Tryd.prog a w K Q := by
  obtain ⟨i0, hi, hz0, hz1, hz2⟩ := info_parts u8_info
  have hl : xs.length = n := hC.1
  cases A with
  | none =>
    have h0 : n = 0 := by
      rcases Nat.eq_zero_or_pos n with h0 | h0
      · exact h0
      · obtain ⟨ad, h, _⟩ := hC.2.2 h0
        cases h
    subst h0
    obtain rfl : xs = [] := List.eq_nil_of_length_eq_zero hl
    have hrun : (Builtin.append_ #[38, 38] o.type #[v, .slice none 0 c]).run Tryd.prog w = .ok v w := by
      have hu := Tryd.underlying38
      have HO : w.ownsRow base 5 1 v ys.length (nums .u8 ys) := hown
      rcases HO.2 with ⟨rfl, hn⟩ | ⟨g, cap, cur, rfl, _, _, hnc, _⟩
      · simp [Builtin.append_, run_underlying hu, sizeOf, typeInfo, hi, Builtin.lenOf, Builtin.firstCells]
      · simp [Builtin.append_, run_underlying hu, sizeOf, typeInfo, hi, Builtin.lenOf, Builtin.firstCells, hnc, storeCells]
    unfold Oper.wp execOp
    simp only [ho, resolve, invoke, builtin, Sem.run_bind, Sem.run_pure, Result.andThen_ok, List.map_toArray, List.map_cons, List.map_nil, hs, hx, hrun]
    exact h v w (by rw [List.append_nil]; exact hown) (World.grownBy.refl _ _)
  | some ad =>
    refine wp_append_own w s x 38 ho base 5 i0 (.int .u8 0) 1 1 Tryd.underlying38 hi hz0 hz1 hz2 rfl (by decide) v _ _ hs hown ad n c (nums .u8 xs) hx (by rw [nums_length]; omega) ?_ (nums_oneC _ _) (by unfold maxLen; omega) (by omega) hbase ?_
    · intro j u hu
      have hj : j < n := by
        have := (List.getElem?_eq_some_iff.1 hu).1
        rw [nums_length] at this; omega
      obtain ⟨b, e, hr⟩ := C_cells hC (by omega)
      obtain rfl := Option.some.inj e
      exact hr j u hu
    · intro v' w' h1 h2 h3
      refine h v' w' ?_ h2
      unfold Own
      rw [List.length_append, hl, nums_append]
      exact h1
theorem step_append_C {w : World} {ops : Array Oper} {o : Oper} {a : Act} {K : Act → World → Prop} {Q : Exit → Act → World → Prop} {E : Prop} (hgd : o.guard = none) (s x : Operand)
    (ho : o.op = .call { callee := .builtin .append, args := #[s, x], argTypes := #[38, 38] })
    (base : Nat) (v : Value) (ys : List Int) (hs : a.eval s = v) (hown : Own w base v ys) (A : Option Addr) (n c : Nat) (xs : List Int) (hx : a.eval x = .slice A n c) (hC : (Kd.int .u8).C w A n xs)
    (h63 : ys.length + n ≤ 140737488355328) (hbase : base ≤ w.heap.size)
    (h : ∀ v' w', Own w' base v' (ys ++ xs) → w.grownBy w' v.ownBlock → K (a.put o.dst v') w') :
    if Region.wanted o (yielded ops a.tmps) = true then Oper.wp Tryd.prog o a w K Q else E := by
  have hw : Region.wanted o (yielded ops a.tmps) = true := by simp [Region.wanted, hgd]
  rw [if_pos hw]
  exact wp_append_C s x ho base v ys hs hown A n c xs hx hC h63 hbase h
set_option maxRecDepth 100000 in
set_option maxHeartbeats 1000000 in
theorem fbytesC_yes (ver ty fl st ln : Int) (A : Option Addr) (n c : Nat) (xs : List Int) (w : World) (hB : (Kd.int .u8).C w A n xs) (f0 : 0 ≤ fl) (f1 : fl ≤ 65535) (s0 : 0 ≤ st) (s1 : st ≤ 4294967295) (l0 : 0 ≤ ln) (l1 : ln ≤ 4294967295) (hne : (n : Int) = szF ty ln) :
    Calls Tryd.prog 27 #[frm ver ty fl st ln A n c] w fun e w' => ∃ v, e = .returned (.tuple #[v, .nilIface]) ∧ Own w' w.heap.size v (enc ver ty fl st ln ++ xs) ∧ Below w.heap.size w w' := by
  obtain ⟨w1, hw1⟩ : ∃ w1, w1 = w.alloc (.cells #[.int .u8 ver, .int .u8 ty, .int .u16 fl, .int .u32 st, .int .u32 ln, .slice A n c] 45) := ⟨_, rfl⟩
  have hx : w1.heap[w.heap.size]? = some (.cells #[.int .u8 ver, .int .u8 ty, .int .u16 fl, .int .u32 st, .int .u32 ln, .slice A n c] 45 (0, 0)) := by rw [hw1, alloc_at]
  have hB1 : Below w.heap.size w w1 := by rw [hw1]; exact (Below.refl _ _).alloc (Nat.le_refl _) _
  have e0 : w1.cell? ⟨w.heap.size, 0, none⟩ = some (.int .u8 ver) := cell_blk hx rfl
  have e1 : w1.cell? ⟨w.heap.size, 1, none⟩ = some (.int .u8 ty) := cell_blk hx rfl
  have e2 : w1.cell? ⟨w.heap.size, 2, none⟩ = some (.int .u16 fl) := cell_blk hx rfl
  have e3 : w1.cell? ⟨w.heap.size, 3, none⟩ = some (.int .u32 st) := cell_blk hx rfl
  have e4 : w1.cell? ⟨w.heap.size, 4, none⟩ = some (.int .u32 ln) := cell_blk hx rfl
  have e5 : w1.cell? ⟨w.heap.size, 5, none⟩ = some (.slice A n c) := cell_blk hx rfl
  have k0 := cell_regrown e0
  have k1 := cell_regrown e1
  have k2 := cell_regrown e2
  have k3 := cell_regrown e3
  have k4 := cell_regrown e4
  have k5 := cell_regrown e5
  have cS : ∀ d os, Calls Tryd.prog 43 #[hdr ver ty fl st ln] (Go.Sort.grow (redrawn w1 d) os) fun e w'' => e = .returned (.int .i64 (szF ty ln)) ∧ ∃ p : Regrown, w'' = Go.Sort.grow (redrawn w1 p.d) p.os := fun d os => Calls.regrown_of (size_any ver ty fl st ln _ l0 l1)
  have HE := Lib.hid hw1
  have HX := Lib.hid hx
  have HB1 := Lib.hid hB1
  clear hw1 hx hB1
  go_enter Tryd.func27, Tryd.ntmps27
  go_wp2_with fail
  rw [← HE.out]
  refine wp_region_quiet_below (by kernel_rfl) (by kernel_rfl) ?_
  repeat (quiet_step (with_reducible exact cS _ _))
  refine wpQuiet_nil ?_
  intro _ hw'
  obtain ⟨⟨dq, osq⟩, hw''⟩ := hw'
  have hb12 : Below w1.heap.size w1 (Go.Sort.grow (redrawn w1 dq) osq) := below_regrown w1 dq osq
  rw [← hw''] at hb12
  clear hw'' cS k0 k1 k2 k3 k4 k5 e0 e1 e2 e3 e4 e5
  rename World => w2
  have HX2 := Lib.hid ((hb12.block _ (Array.getElem?_eq_some_iff.1 HX.out).1).trans HX.out)
  have HB2 := Lib.hid (HB1.out.trans (hb12.mono HB1.out.size))
  clear hb12 HX
  have hd : ((n : Int) != szF ty ln) = false := by simp [hne]
  have e0 : w2.cell? ⟨w.heap.size, 0, none⟩ = some (.int .u8 ver) := cell_blk HX2.out rfl
  have e1 : w2.cell? ⟨w.heap.size, 1, none⟩ = some (.int .u8 ty) := cell_blk HX2.out rfl
  have e2 : w2.cell? ⟨w.heap.size, 2, none⟩ = some (.int .u16 fl) := cell_blk HX2.out rfl
  have e3 : w2.cell? ⟨w.heap.size, 3, none⟩ = some (.int .u32 st) := cell_blk HX2.out rfl
  have e4 : w2.cell? ⟨w.heap.size, 4, none⟩ = some (.int .u32 ln) := cell_blk HX2.out rfl
  have e5 : w2.cell? ⟨w.heap.size, 5, none⟩ = some (.slice A n c) := cell_blk HX2.out rfl
  have hnl : n ≤ 4294967295 := by unfold szF at hne; split at hne <;> omega
  have HBs := Lib.hid hB
  have hszB := HB2.out.size
  have hcE : ∀ W, Calls Tryd.prog 28 #[hdr ver ty fl st ln] W _ := fun W => encode_any ver ty fl st ln W f0 f1 s0 s1 l0 l1
  clear hB
  go_wp2_with fail
  go_region_law (first
    | (go_simp; go_at_call 28; refine (hcE _).mono ?_; rintro e w3 ⟨g3, rfl, ho3, hb3⟩; have HO3 : Hid (Own w3 w2.heap.size (.slice (some ⟨g3, 0, none⟩) 12 12) (enc ver ty fl st ln)) := ho3; have HB23 := Lib.hid ((Below.refl w2.heap.size w2).drew.trans hb3); have hz3 := hb3.size; have d5 : w3.cell? ⟨w.heap.size, 5, none⟩ = some (.slice A n c) := cell_blk ((HB23.out.block _ (Array.getElem?_eq_some_iff.1 HX2.out).1).trans HX2.out) rfl; have HBs3 := Lib.hid (C_below (C_below HBs.out HB2.out) HB23.out); clear ho3 hb3)
    | (refine step_append_C rfl (.tmp 14) (.tmp 16) rfl w2.heap.size (.slice (some ⟨g3, 0, none⟩) 12 12) (enc ver ty fl st ln) (by simp [Act.eval, Act.put]) HO3.out A n c xs (by simp [Act.eval, Act.put]) HBs3.out (by simp [enc]; omega) (by simpa using hz3) ?_; intro v4 w4 ho4 hg4; have HO4 := Lib.hid ho4; have HB4 := Lib.hid (HB23.out.grown hg4 (by simpa using hz3) (fun k hk => (HO3.out.lt k hk).1)); clear ho4 hg4))
  all_goals
    go_wp2_with fail
    go_ret2
    exact ⟨v4, rfl, ⟨HO4.out.1, by rcases HO4.out.2 with h | ⟨g, cap, cur, a, b, c⟩; exact .inl h; exact .inr ⟨g, cap, cur, a, by omega, c⟩⟩, HB2.out.trans (HB4.out.mono hszB)⟩
end Go.Proofs.YtfddhipdedcacaaDoor
/-
  Plain: frames' own bytes, one behind the other, and what a decoder makes of them.
-/
namespace Go.Proofs.YtfddhipdedcacaaDoor
open Go.Proofs.YtfddhipdedcacaaDoor.PFeedPieces
set_option linter.unusedVariables false
set_option linter.unusedSimpArgs false
theorem D_enc' {ver ty fl st ln : Int} (hI : HdIn ver ty fl st ln) : D0 (enc ver ty fl st ln) = ver ∧ D1 (enc ver ty fl st ln) = ty ∧ D2 (enc ver ty fl st ln) = fl ∧ D3 (enc ver ty fl st ln) = st ∧ D4 (enc ver ty fl st ln) = ln ∧ DE (enc ver ty fl st ln) = 0 := by
  obtain ⟨v0, v1, t0, t1, f0, f1, s0, s1, l0, l1⟩ := hI
  simp only [D0, D1, D2, D3, D4, DE, enc, gd, dFl, dSt, dLn]
  simp
  omega
theorem enc_D' {ys : List Int} (hx : ∀ x ∈ ys, 0 ≤ x ∧ x ≤ 255) (h : ¬ ys.length < 12) : enc (D0 ys) (D1 ys) (D2 ys) (D3 ys) (D4 ys) = ys.take 12 := by
  rcases ys with _ | ⟨y0, ys⟩
  · exact absurd (by simp) h
  rcases ys with _ | ⟨y1, ys⟩
  · exact absurd (by simp) h
  rcases ys with _ | ⟨y2, ys⟩
  · exact absurd (by simp) h
  rcases ys with _ | ⟨y3, ys⟩
  · exact absurd (by simp) h
  rcases ys with _ | ⟨y4, ys⟩
  · exact absurd (by simp) h
  rcases ys with _ | ⟨y5, ys⟩
  · exact absurd (by simp) h
  rcases ys with _ | ⟨y6, ys⟩
  · exact absurd (by simp) h
  rcases ys with _ | ⟨y7, ys⟩
  · exact absurd (by simp) h
  rcases ys with _ | ⟨y8, ys⟩
  · exact absurd (by simp) h
  rcases ys with _ | ⟨y9, ys⟩
  · exact absurd (by simp) h
  rcases ys with _ | ⟨y10, ys⟩
  · exact absurd (by simp) h
  rcases ys with _ | ⟨y11, ys⟩
  · exact absurd (by simp) h
  simp only [List.mem_cons, forall_eq_or_imp] at hx
  simp only [enc, D0, D1, D2, D3, D4, dFl, dSt, dLn, gd, if_neg h]
  simp
  omega
theorem enc_byt' {ver ty fl st ln : Int} (hI : HdIn ver ty fl st ln) : ∀ x ∈ enc ver ty fl st ln, 0 ≤ x ∧ x ≤ 255 := by
  obtain ⟨v0, v1, t0, t1, f0, f1, s0, s1, l0, l1⟩ := hI
  intro x hx
  simp only [enc, List.mem_cons, List.not_mem_nil, or_false] at hx
  omega
theorem enc_len (ver ty fl st ln : Int) : (enc ver ty fl st ln).length = 12 := rfl
/-- A frame's own bytes. -/
def encF (p : Fr) : List Int := enc p.f0.f0 p.f0.f1 p.f0.f2 p.f0.f3 p.f0.f4 ++ p.f1
theorem encF_len (p : Fr) : (encF p).length = 12 + p.f1.length := by unfold encF; rw [List.length_append, enc_len]
/-- A frame that may be. -/
structure FOk (most : Int) (p : Fr) : Prop where
  hd : HdIn p.f0.f0 p.f0.f1 p.f0.f2 p.f0.f3 p.f0.f4
  sz : (p.f1.length : Int) = szF p.f0.f1 p.f0.f4
  ok : chk p.f0.f0 p.f0.f1 p.f0.f2 p.f0.f3 p.f0.f4 most = 0
  byt : ∀ x ∈ p.f1, 0 ≤ x ∧ x ≤ 255
def flat (fs : List Fr) : List Int := fs.flatMap encF
theorem flat_nil : flat [] = [] := rfl
theorem flat_cons (p : Fr) (fs : List Fr) : flat (p :: fs) = encF p ++ flat fs := by simp [flat]
theorem flat_app (a b : List Fr) : flat (a ++ b) = flat a ++ flat b := by simp [flat]
theorem flat_one (p : Fr) : flat [p] = encF p := by simp [flat]
theorem D_encF {p : Fr} (hI : HdIn p.f0.f0 p.f0.f1 p.f0.f2 p.f0.f3 p.f0.f4) (ys : List Int) : D0 (encF p ++ ys) = p.f0.f0 ∧ D1 (encF p ++ ys) = p.f0.f1 ∧ D2 (encF p ++ ys) = p.f0.f2 ∧ D3 (encF p ++ ys) = p.f0.f3 ∧ D4 (encF p ++ ys) = p.f0.f4 := by
  obtain ⟨e0, e1, e2, e3, e4, _⟩ := D_enc' hI
  obtain ⟨a0, a1, a2, a3, a4⟩ := D_app (xs := enc p.f0.f0 p.f0.f1 p.f0.f2 p.f0.f3 p.f0.f4) (ys := p.f1 ++ ys) (by rw [enc_len]; omega)
  unfold encF
  rw [List.append_assoc]
  exact ⟨a0.trans e0, a1.trans e1, a2.trans e2, a3.trans e3, a4.trans e4⟩
/-- Frames that may be come back. -/
theorem cut_flat {most : Int} (ys : List Int) : ∀ fs : List Fr, (∀ p ∈ fs, FOk most p) → cut most (flat fs ++ ys) = (fs ++ (cut most ys).1, (cut most ys).2)
  | [], _ => by simp [flat]
  | p :: fs, h => by
    obtain ⟨hd, sz, ok, byt⟩ := h p (by simp)
    obtain ⟨e0, e1, e2, e3, e4⟩ := D_encF hd (flat fs ++ ys)
    have hl := encF_len p
    have hz : szX (encF p ++ (flat fs ++ ys)) = p.f1.length := by unfold szX; rw [e1, e4, ← sz]; simp
    rw [flat_cons, List.append_assoc, cut_go (by simp; omega) (by unfold chkX; rw [e0, e1, e2, e3, e4]; exact ok) (by rw [hz]; simp; omega), hz]
    have h1 : (encF p ++ (flat fs ++ ys)).drop (12 + p.f1.length) = flat fs ++ ys := by rw [← hl, List.drop_left]
    have h2 : ((encF p ++ (flat fs ++ ys)).drop 12).take p.f1.length = p.f1 := by
      unfold encF
      rw [List.append_assoc]
      rw [show ∀ z, (enc p.f0.f0 p.f0.f1 p.f0.f2 p.f0.f3 p.f0.f4 ++ z).drop 12 = z from fun z => by rw [← enc_len p.f0.f0 p.f0.f1 p.f0.f2 p.f0.f3 p.f0.f4, List.drop_left]]
      rw [List.take_left]
    have h3 : hdOf (encF p ++ (flat fs ++ ys)) = p.f0 := by unfold hdOf; rw [e0, e1, e2, e3, e4]
    rw [h1, h2, h3, cut_flat ys fs (fun q hq => h q (by simp [hq]))]
    rfl
theorem cut_flat_all {most : Int} (fs : List Fr) (h : ∀ p ∈ fs, FOk most p) : cut most (flat fs) = (fs, [], 0, 0) := by
  have := cut_flat (most := most) [] fs h
  have h0 : cut most ([] : List Int) = ([], [], 0, 0) := cut_short (by simp)
  rw [h0, List.append_nil, List.append_nil] at this
  exact this
/-- What a decoder gives: frames that may be; their bytes and what is behind them are all. -/
theorem cut_all (most : Int) (xs : List Int) (hx : ∀ x ∈ xs, 0 ≤ x ∧ x ≤ 255) : (∀ p ∈ (cut most xs).1, FOk most p) ∧ ∃ tl, xs = flat (cut most xs).1 ++ tl ∧ ((cut most xs).2.2.1 = 0 → tl = (cut most xs).2.1) ∧ ((cut most xs).2.2.1 ≠ 0 → ¬ tl.length < 12 ∧ chkX most tl = (cut most xs).2.2.1 ∧ D3 tl = (cut most xs).2.2.2) := by
  induction hn : xs.length using Nat.strongRecOn generalizing xs with
  | _ n ih =>
    subst hn
    by_cases h12 : xs.length < 12
    · rw [cut_short h12]; exact ⟨(fun p hp => by cases hp), xs, by simp [flat], fun _ => rfl, fun h => absurd rfl h⟩
    · by_cases hc : chkX most xs = 0
      · by_cases hp : xs.length - 12 < szX xs
        · rw [cut_part h12 hc hp]; exact ⟨(fun p hp => by cases hp), xs, by simp [flat], fun _ => rfl, fun h => absurd rfl h⟩
        · rw [cut_go h12 hc hp]
          obtain ⟨h1, tl, h2, h3, h4⟩ := ih (xs.drop (12 + szX xs)).length (by simp; omega) (xs.drop (12 + szX xs)) (fun x h => hx x (List.mem_of_mem_drop h)) rfl
          have hI := D_in hx
          have hl : ((xs.drop 12).take (szX xs)).length = szX xs := by rw [List.length_take, List.length_drop]; omega
          refine ⟨fun p hp => ?_, tl, ?_, h3, h4⟩
          · rcases List.mem_cons.1 hp with rfl | hp
            · refine ⟨hI, ?_, hc, fun x h => hx x (List.mem_of_mem_drop (List.mem_of_mem_take h))⟩
              show (((xs.drop 12).take (szX xs)).length : Int) = szF (D1 xs) (D4 xs)
              rw [hl]
              have := hI.l0
              unfold szX szF
              split <;> omega
            · exact h1 p hp
          · show xs = flat (_ :: (cut most (xs.drop (12 + szX xs))).1) ++ tl
            rw [flat_cons, List.append_assoc, ← h2]
            unfold encF hdOf
            rw [enc_D' hx h12, List.append_assoc]
            have e1 : (xs.drop 12).take (szX xs) ++ xs.drop (12 + szX xs) = xs.drop 12 := by rw [← List.drop_drop, List.take_append_drop]
            rw [e1, List.take_append_drop]
      · rw [cut_bad h12 hc]; exact ⟨(fun p hp => by cases hp), xs, by simp [flat], fun h => absurd h hc, fun _ => ⟨h12, rfl, rfl⟩⟩
/-- A frame takes as many bytes as its own. -/
theorem flat_len (fs : List Fr) : (flat fs).length = (fs.map fun p => 12 + p.f1.length).sum := by
  induction fs with
  | nil => rfl
  | cons p fs ih => rw [flat_cons, List.length_append, encF_len, ih]; rfl
theorem flat_byt {most : Int} {fs : List Fr} (h : ∀ p ∈ fs, FOk most p) : ∀ x ∈ flat fs, 0 ≤ x ∧ x ≤ 255 := by
  intro x hx
  obtain ⟨p, hp, hx⟩ := List.mem_flatMap.1 hx
  rcases List.mem_append.1 hx with hx | hx
  · exact enc_byt' (h p hp).hd x hx
  · exact (h p hp).byt x hx
end Go.Proofs.YtfddhipdedcacaaDoor
