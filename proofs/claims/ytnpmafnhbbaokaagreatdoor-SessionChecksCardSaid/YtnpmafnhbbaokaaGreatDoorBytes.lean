/-
  frame.Bytes and the reference's Bytes.
-/
import Derived.Test.YtnpmafnhbbaokaaGreatDoorREnc
import Derived.Test.YtnpmafnhbbaokaaGreatDoorSize
import Derived.Test.YtnpmafnhbbaokaaGreatDoorGood
import Derived.Test.YtnpmafnhbbaokaaGreatDoorStepBs
import Derived.Deep.RegionLaw
import Derived.Lib.QuietBelow
namespace Go.Proofs.YtnpmafnhbbaokaaGreatDoor
open Go.RowKit
set_option linter.unusedVariables false
set_option linter.unusedSimpArgs false
/-- A frame, as a value. -/
abbrev frm (ver ty fl st ln : Int) (A : Option Addr) (n c : Nat) : Value := .agg #[.int .u8 ver, .int .u8 ty, .int .u16 fl, .int .u32 st, .int .u32 ln, .slice A n c]
set_option maxRecDepth 100000 in
set_option maxHeartbeats 1000000 in
theorem fbytes_yes (ver ty fl st ln : Int) (A : Option Addr) (n c : Nat) (xs : List Int) (w : World) (hB : Bs w A n c xs) (f0 : 0 ≤ fl) (f1 : fl ≤ 65535) (s0 : 0 ≤ st) (s1 : st ≤ 4294967295) (l0 : 0 ≤ ln) (l1 : ln ≤ 4294967295) (hne : (n : Int) = szF ty ln) :
    Calls Tryz.prog 74 #[frm ver ty fl st ln A n c] w fun e w' => ∃ v, e = .returned (.tuple #[v, .nilIface]) ∧ Own w' w.heap.size v (enc ver ty fl st ln ++ xs) ∧ Below w.heap.size w w' := by
  obtain ⟨w1, hw1⟩ : ∃ w1, w1 = w.alloc (.cells #[.int .u8 ver, .int .u8 ty, .int .u16 fl, .int .u32 st, .int .u32 ln, .slice A n c] 89) := ⟨_, rfl⟩
  have hx : w1.heap[w.heap.size]? = some (.cells #[.int .u8 ver, .int .u8 ty, .int .u16 fl, .int .u32 st, .int .u32 ln, .slice A n c] 89 (0, 0)) := by rw [hw1, alloc_at]
  have hB1 : Below w.heap.size w w1 := by rw [hw1]; exact (Below.refl _ _).alloc (Nat.le_refl _) _
  have e0 : w1.cell? ⟨w.heap.size, 0, none⟩ = some (.int .u8 ver) := cell_blk hx rfl
  have e1 : w1.cell? ⟨w.heap.size, 1, none⟩ = some (.int .u8 ty) := cell_blk hx rfl
  have e2 : w1.cell? ⟨w.heap.size, 2, none⟩ = some (.int .u16 fl) := cell_blk hx rfl
  have e3 : w1.cell? ⟨w.heap.size, 3, none⟩ = some (.int .u32 st) := cell_blk hx rfl
  have e4 : w1.cell? ⟨w.heap.size, 4, none⟩ = some (.int .u32 ln) := cell_blk hx rfl
  have e5 : w1.cell? ⟨w.heap.size, 5, none⟩ = some (.slice A n c) := cell_blk hx rfl
  have k0 := cell_regrown e0
  have k1 := cell_regrown e1
  have k2 := cell_regrown e2
  have k3 := cell_regrown e3
  have k4 := cell_regrown e4
  have k5 := cell_regrown e5
  have cS : ∀ d os, Calls Tryz.prog 102 #[hdr ver ty fl st ln] (Go.Sort.grow (redrawn w1 d) os) fun e w'' => e = .returned (.int .i64 (szF ty ln)) ∧ ∃ p : Regrown, w'' = Go.Sort.grow (redrawn w1 p.d) p.os := fun d os => Calls.regrown_of (size_any ver ty fl st ln _ l0 l1)
  have HE := Lib.hid hw1
  have HX := Lib.hid hx
  have HB1 := Lib.hid hB1
  clear hw1 hx hB1
  go_enter Tryz.func74, Tryz.ntmps74
  go_wp2_with fail
  rw [← HE.out]
  refine wp_region_quiet_below (by kernel_rfl) (by kernel_rfl) ?_
  repeat (quiet_step (with_reducible exact cS _ _))
  refine wpQuiet_nil ?_
  intro _ hw'
  obtain ⟨⟨dq, osq⟩, hw''⟩ := hw'
  have hb12 : Below w1.heap.size w1 (Go.Sort.grow (redrawn w1 dq) osq) := below_regrown w1 dq osq
  rw [← hw''] at hb12
  clear hw'' cS k0 k1 k2 k3 k4 k5 e0 e1 e2 e3 e4 e5
  rename World => w2
  have HX2 := Lib.hid ((hb12.block _ (Array.getElem?_eq_some_iff.1 HX.out).1).trans HX.out)
  have HB2 := Lib.hid (HB1.out.trans (hb12.mono HB1.out.size))
  clear hb12 HX
  have hd : ((n : Int) != szF ty ln) = false := by simp [hne]
  have e0 : w2.cell? ⟨w.heap.size, 0, none⟩ = some (.int .u8 ver) := cell_blk HX2.out rfl
  have e1 : w2.cell? ⟨w.heap.size, 1, none⟩ = some (.int .u8 ty) := cell_blk HX2.out rfl
  have e2 : w2.cell? ⟨w.heap.size, 2, none⟩ = some (.int .u16 fl) := cell_blk HX2.out rfl
  have e3 : w2.cell? ⟨w.heap.size, 3, none⟩ = some (.int .u32 st) := cell_blk HX2.out rfl
  have e4 : w2.cell? ⟨w.heap.size, 4, none⟩ = some (.int .u32 ln) := cell_blk HX2.out rfl
  have e5 : w2.cell? ⟨w.heap.size, 5, none⟩ = some (.slice A n c) := cell_blk HX2.out rfl
  have hnl : n ≤ 4294967295 := by unfold szF at hne; split at hne <;> omega
  have HBs := Lib.hid hB
  have hszB := HB2.out.size
  have hcE : ∀ W, Calls Tryz.prog 103 #[hdr ver ty fl st ln] W _ := fun W => encode_any ver ty fl st ln W f0 f1 s0 s1 l0 l1
  clear hB
  go_wp2_with fail
  go_region_law (first
    | (go_simp; go_at_call 103; refine (hcE _).mono ?_; rintro e w3 ⟨g3, rfl, ho3, hb3⟩; have HO3 : Hid (Own w3 w2.heap.size (.slice (some ⟨g3, 0, none⟩) 12 12) (enc ver ty fl st ln)) := ho3; have HB23 := Lib.hid ((Below.refl w2.heap.size w2).drew.trans hb3); have hz3 := hb3.size; have d5 : w3.cell? ⟨w.heap.size, 5, none⟩ = some (.slice A n c) := cell_blk ((HB23.out.block _ (Array.getElem?_eq_some_iff.1 HX2.out).1).trans HX2.out) rfl; have HBs3 := Lib.hid ((HBs.out.next (HB2.out)).next HB23.out); clear ho3 hb3)
    | (refine step_append_bs rfl (.tmp 14) (.tmp 16) rfl w2.heap.size (.slice (some ⟨g3, 0, none⟩) 12 12) (enc ver ty fl st ln) (by simp [Act.eval, Act.put]) HO3.out A n c xs (by simp [Act.eval, Act.put]) HBs3.out (by simp [enc]; omega) (by simpa using hz3) ?_; intro v4 w4 ho4 hg4 hz4; have HO4 := Lib.hid ho4; have HB4 := Lib.hid (HB23.out.grown hg4 (by simpa using hz3) (fun k hk => (HO3.out.lt k hk).1)); clear ho4 hg4 hz4))
  all_goals
    go_wp2_with fail
    go_ret2
    exact ⟨v4, rfl, ⟨HO4.out.1, by rcases HO4.out.2 with h | ⟨g, cap, cur, a, b, c⟩; exact .inl h; exact .inr ⟨g, cap, cur, a, by omega, c⟩⟩, HB2.out.trans (HB4.out.mono hszB)⟩
set_option maxRecDepth 100000 in
set_option maxHeartbeats 1000000 in
theorem fbytes_no {sa : Nat → Addr} (ver ty fl st ln : Int) (A : Option Addr) (n c : Nat) (xs : List Int) (w : World) (hG : Good w sa) (hB : Bs w A n c xs) (f0 : 0 ≤ fl) (f1 : fl ≤ 65535) (s0 : 0 ≤ st) (s1 : st ≤ 4294967295) (l0 : 0 ≤ ln) (l1 : ln ≤ 4294967295) (hne : ¬ (n : Int) = szF ty ln) :
    Calls Tryz.prog 74 #[frm ver ty fl st ln A n c] w fun e w' => e = .returned (.tuple #[.slice none 0 0, sv (sa 15)]) ∧ Below w.heap.size w w' := by
  obtain ⟨w1, hw1⟩ : ∃ w1, w1 = w.alloc (.cells #[.int .u8 ver, .int .u8 ty, .int .u16 fl, .int .u32 st, .int .u32 ln, .slice A n c] 89) := ⟨_, rfl⟩
  have hx : w1.heap[w.heap.size]? = some (.cells #[.int .u8 ver, .int .u8 ty, .int .u16 fl, .int .u32 st, .int .u32 ln, .slice A n c] 89 (0, 0)) := by rw [hw1, alloc_at]
  have hB1 : Below w.heap.size w w1 := by rw [hw1]; exact (Below.refl _ _).alloc (Nat.le_refl _) _
  have e0 : w1.cell? ⟨w.heap.size, 0, none⟩ = some (.int .u8 ver) := cell_blk hx rfl
  have e1 : w1.cell? ⟨w.heap.size, 1, none⟩ = some (.int .u8 ty) := cell_blk hx rfl
  have e2 : w1.cell? ⟨w.heap.size, 2, none⟩ = some (.int .u16 fl) := cell_blk hx rfl
  have e3 : w1.cell? ⟨w.heap.size, 3, none⟩ = some (.int .u32 st) := cell_blk hx rfl
  have e4 : w1.cell? ⟨w.heap.size, 4, none⟩ = some (.int .u32 ln) := cell_blk hx rfl
  have e5 : w1.cell? ⟨w.heap.size, 5, none⟩ = some (.slice A n c) := cell_blk hx rfl
  have k0 := cell_regrown e0
  have k1 := cell_regrown e1
  have k2 := cell_regrown e2
  have k3 := cell_regrown e3
  have k4 := cell_regrown e4
  have k5 := cell_regrown e5
  have cS : ∀ d os, Calls Tryz.prog 102 #[hdr ver ty fl st ln] (Go.Sort.grow (redrawn w1 d) os) fun e w'' => e = .returned (.int .i64 (szF ty ln)) ∧ ∃ p : Regrown, w'' = Go.Sort.grow (redrawn w1 p.d) p.os := fun d os => Calls.regrown_of (size_any ver ty fl st ln _ l0 l1)
  have HE := Lib.hid hw1
  have HX := Lib.hid hx
  have HB1 := Lib.hid hB1
  clear hw1 hx hB1
  go_enter Tryz.func74, Tryz.ntmps74
  go_wp2_with fail
  rw [← HE.out]
  refine wp_region_quiet_below (by kernel_rfl) (by kernel_rfl) ?_
  repeat (quiet_step (with_reducible exact cS _ _))
  refine wpQuiet_nil ?_
  intro _ hw'
  obtain ⟨⟨dq, osq⟩, hw''⟩ := hw'
  have hb12 : Below w1.heap.size w1 (Go.Sort.grow (redrawn w1 dq) osq) := below_regrown w1 dq osq
  rw [← hw''] at hb12
  clear hw'' cS k0 k1 k2 k3 k4 k5 e0 e1 e2 e3 e4 e5
  rename World => w2
  have HX2 := Lib.hid ((hb12.block _ (Array.getElem?_eq_some_iff.1 HX.out).1).trans HX.out)
  have HB2 := Lib.hid (HB1.out.trans (hb12.mono HB1.out.size))
  clear hb12 HX
  have hG2 := Lib.hid (hG.below HB2.out)
  clear hG
  have hd : ((n : Int) != szF ty ln) = true := by simp [hne]
  have g15 := (hG2.out.at_ 15 (by omega) (by omega)).glob
  simp only [sgb] at g15
  go_wp2_with fail
  go_region
  all_goals
    go_wp2_with fail
    go_ret2
    exact ⟨rfl, HB2.out.drew⟩
end Go.Proofs.YtnpmafnhbbaokaaGreatDoor
