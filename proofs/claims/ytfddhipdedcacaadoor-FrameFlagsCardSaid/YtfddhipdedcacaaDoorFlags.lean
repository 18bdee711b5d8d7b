/-
  FrameFlags: the law's walk.
-/
import Derived.Test.YtfddhipdedcacaaDoorAwake4
namespace Go.Proofs.YtfddhipdedcacaaDoor
open Go.RowKit
set_option linter.unusedVariables false
set_option linter.unusedSimpArgs false

def stF (t : Nat) : Int := if t < 2 then 1 else 0
def okF (t f : Nat) : Bool := chk 0 t f (stF t) 0 0 == 0
def cFl (t : Nat) : Nat → Nat
  | 0 => 0
  | f + 1 => cFl t f + (if okF t f then 1 else 0)
def cTy : Nat → Nat
  | 0 => 0
  | t + 1 => cTy t + cFl t 64
theorem cTy_6 : cTy 6 = 17 := by decide +kernel
theorem cFl_le (t : Nat) : ∀ f, cFl t f ≤ f
  | 0 => Nat.le_refl _
  | f + 1 => by have := cFl_le t f; unfold cFl; split <;> omega
theorem cTy_le : ∀ t, cTy t ≤ 64 * t
  | 0 => Nat.le_refl _
  | t + 1 => by have := cTy_le t; have := cFl_le t 64; unfold cTy; omega

/-- Behind frame.Check of a header that was just laid. -/
theorem flag_step {sa : Nat → Addr} {w wr : World} {st : Int} {k f : Nat} {R : Ending → World → Prop} (HR : Hid (Inv sa w wr)) (hk : k < 6) (hf : f < 64)
    (h : ∀ v w2, Hid (Inv sa w w2) → Hid (v = errv sa (chk 0 k f st 0 0)) → w2.cell? ⟨wr.heap.size, 0, none⟩ = some (.int .u8 0) → w2.cell? ⟨wr.heap.size, 1, none⟩ = some (.int .u8 k) → w2.cell? ⟨wr.heap.size, 2, none⟩ = some (.int .u16 f) → w2.cell? ⟨wr.heap.size, 3, none⟩ = some (.int .u32 st) → w2.cell? ⟨wr.heap.size, 4, none⟩ = some (.int .u32 0) → R (.returned v) w2) :
    Calls Tryd.prog 18 #[.agg #[.int .u8 0, .int .u8 k, .int .u16 f, .int .u32 st, .int .u32 0], .int .i64 0] (wr.alloc (.cells #[.int .u8 0, .int .u8 k, .int .u16 f, .int .u32 st, .int .u32 0] 26)) R := by
  have hbx0 : Below wr.heap.size wr (wr.alloc (.cells #[.int .u8 0, .int .u8 k, .int .u16 f, .int .u32 st, .int .u32 0] 26)) := (Below.refl _ _).alloc (Nat.le_refl _) _
  have HR3 := Lib.hid (HR.out.next hbx0)
  refine (check_any (sa := sa) HR3.out.good HR3.out.law 0 k f st 0 0 (by omega) (by omega) (by omega) (by omega)).mono ?_
  rintro e w2 ⟨rfl, hb2⟩
  have hbx : w2.heap[wr.heap.size]? = some (.cells #[.int .u8 0, .int .u8 k, .int .u16 f, .int .u32 st, .int .u32 0] 26 (0, 0)) := (hb2.block _ (by simp)).trans (alloc_at _ _)
  exact h _ w2 (HR3.out.next hb2) rfl (cell_blk hbx rfl) (cell_blk hbx rfl) (cell_blk hbx rfl) (cell_blk hbx rfl) (cell_blk hbx rfl)

set_option maxRecDepth 100000 in
set_option maxHeartbeats 1000000 in
theorem frameFlags_walk {sa : Nat → Addr} {w : World} (hG : Good w sa) (hL : Lawful w) :
    Calls Tryd.prog 3 #[] w fun e w' => e = .returned (.bool true) ∧ Below w.heap.size w w' := by
  have HI : Hid (Inv sa w w) := ⟨hG, hL, Below.refl _ _⟩
  clear hG hL
  go_enter Tryd.func3, Tryd.ntmps3
  go_wp2_with fail
  refine (awake4 HI.out.good HI.out.law).mono ?_
  rintro e w1 ⟨rfl, hb1⟩
  have HI1 := Lib.hid (HI.out.next hb1)
  clear hb1
  go_wp2_with fail
  go_loopw [1, 2] (fun n t wr => ∃ k : Nat, k ≤ 6 ∧ t = .int .i64 k ∧ n = .int .i64 (cTy k) ∧ Hid (Inv sa w wr)) (fun _ t _ => 6 - (intOf t).toNat)
  case atStart => exact ⟨0, by omega, rfl, rfl, HI1⟩
  case round =>
    obtain ⟨k, hk, rfl, rfl, HR⟩ := hrel
    have hck := cTy_le k
    by_cases hlt : k < 6
    · have hd6 : decide ((k : Int) < 6) = true := by simp; omega
      go_wp2_with fail
      obtain ⟨wo, rfl⟩ : ∃ wo : World, wo = wr := ⟨_, rfl⟩
      go_loopw [1, 3] (fun n t wr => ∃ f : Nat, f ≤ 64 ∧ t = .int .i64 f ∧ n = .int .i64 (cTy k + cFl k f : Nat) ∧ Hid (Inv sa w wr)) (fun _ t _ => 64 - (intOf t).toNat)
      case atStart => exact ⟨0, by omega, rfl, rfl, HR⟩
      case round =>
        obtain ⟨f, hf, rfl, rfl, HR2⟩ := hrel
        have hcf := cFl_le k f
        by_cases hlf : f < 64
        · by_cases h2 : k < 2
          · go_wp2_with fail
            refine flag_step (st := 1) (k := k) (f := f) HR2 (by omega) (by omega) ?_
            intro v w2 HR4 hv e0 e1 e2 e3 e4
            have hst : stF k = 1 := by unfold stF; rw [if_pos (by omega)]
            have HC := Lib.hid (chk_le 0 k f 1 0 0)
            have HR4d : Hid (Inv sa w w2.drew) := HR4.out.next (Below.refl _ _).drew
            by_cases h0 : chk 0 k f 1 0 0 = 0
            · obtain rfl : v = .nilIface := by rw [hv.out, h0]; rfl
              have HK : Hid (cFl k (f + 1) = cFl k f + 1) := by show cFl k f + (if okF k f then 1 else 0) = _; rw [if_pos (by unfold okF; rw [hst, h0]; rfl)]
              have H0 := Lib.hid h0
              clear h0 hv hst
              go_wp2_with fail
              go_region_held3 (fun w' => w'.cell? ⟨wr.heap.size, 0, none⟩ = some (.int .u8 0) ∧ w'.cell? ⟨wr.heap.size, 1, none⟩ = some (.int .u8 k) ∧ w'.cell? ⟨wr.heap.size, 2, none⟩ = some (.int .u16 f) ∧ w'.cell? ⟨wr.heap.size, 3, none⟩ = some (.int .u32 1) ∧ w'.cell? ⟨wr.heap.size, 4, none⟩ = some (.int .u32 0) ∧ Hid (Inv sa w w'))
                (first | exact keepS hb e0 e1 e2 e3 e4 HR4d | exact keepC hb (by assumption) | go_keep)
                (first
                  | (go_at_call 20; refine (rcheck_any _ 0 k f 1 0 0 (by omega) (by omega) (by omega) (by omega)).mono ?_; rintro e w' ⟨rfl, hb⟩; rw [H0.out])
                  | (go_at_call 19; refine (code_nil _).mono ?_; rintro e w' ⟨rfl, rfl⟩))
              all_goals
                have HE := Lib.hid (invS (by assumption))
                go_wp2_with fail
                go_roundw
                case rel => exact ⟨f + 1, by omega, by go_num, by rw [HK.out]; go_num, HE.out⟩
                case measure => simp [intOf]; omega
            · obtain ⟨c, hc⟩ : ∃ c, c = chk 0 k f 1 0 0 := ⟨_, rfl⟩
              obtain rfl : v = sv (sa c) := by rw [hv.out, hc]; exact if_neg h0
              have HK : Hid (cFl k (f + 1) = cFl k f) := by show cFl k f + (if okF k f then 1 else 0) = _; rw [if_neg (by unfold okF; rw [hst]; simpa using h0)]; rfl
              have HE0 : Hid (∀ W, EV sa W c 0 (sv (sa c))) := fun W => .inr (.inl ⟨by omega, by have := HC.out; omega, rfl⟩)
              have H0 := Lib.hid hc
              clear h0 hv hst hc
              go_wp2_with fail
              go_region_held3 (fun w' => w'.cell? ⟨wr.heap.size, 0, none⟩ = some (.int .u8 0) ∧ w'.cell? ⟨wr.heap.size, 1, none⟩ = some (.int .u8 k) ∧ w'.cell? ⟨wr.heap.size, 2, none⟩ = some (.int .u16 f) ∧ w'.cell? ⟨wr.heap.size, 3, none⟩ = some (.int .u32 1) ∧ w'.cell? ⟨wr.heap.size, 4, none⟩ = some (.int .u32 0) ∧ Hid (Inv sa w w'))
                (first | exact keepS hb e0 e1 e2 e3 e4 HR4d | exact keepC hb (by assumption) | go_keep)
                (first
                  | (go_at_call 20; refine (rcheck_any _ 0 k f 1 0 0 (by omega) (by omega) (by omega) (by omega)).mono ?_; rintro e w' ⟨rfl, hb⟩; rw [← H0.out])
                  | (go_at_call 19; refine (code_any (sa := sa) ?_ (HE0.out _)).mono ?_; (first | exact HR4d.out.good | exact (invS (by assumption)).good); rintro e w' ⟨rfl, rfl⟩))
              all_goals
                have HE := Lib.hid (invS (by assumption))
                go_wp2_with fail
                go_roundw
                case rel => exact ⟨f + 1, by omega, by go_num, by rw [HK.out]; go_num, HE.out⟩
                case measure => simp [intOf]; omega
          · go_wp2_with fail
            refine flag_step (st := 0) (k := k) (f := f) HR2 (by omega) (by omega) ?_
            intro v w2 HR4 hv e0 e1 e2 e3 e4
            have hst : stF k = 0 := by unfold stF; rw [if_neg (by omega)]
            have HC := Lib.hid (chk_le 0 k f 0 0 0)
            have HR4d : Hid (Inv sa w w2.drew) := HR4.out.next (Below.refl _ _).drew
            by_cases h0 : chk 0 k f 0 0 0 = 0
            · obtain rfl : v = .nilIface := by rw [hv.out, h0]; rfl
              have HK : Hid (cFl k (f + 1) = cFl k f + 1) := by show cFl k f + (if okF k f then 1 else 0) = _; rw [if_pos (by unfold okF; rw [hst, h0]; rfl)]
              have H0 := Lib.hid h0
              clear h0 hv hst
              go_wp2_with fail
              go_region_held3 (fun w' => w'.cell? ⟨wr.heap.size, 0, none⟩ = some (.int .u8 0) ∧ w'.cell? ⟨wr.heap.size, 1, none⟩ = some (.int .u8 k) ∧ w'.cell? ⟨wr.heap.size, 2, none⟩ = some (.int .u16 f) ∧ w'.cell? ⟨wr.heap.size, 3, none⟩ = some (.int .u32 0) ∧ w'.cell? ⟨wr.heap.size, 4, none⟩ = some (.int .u32 0) ∧ Hid (Inv sa w w'))
                (first | exact keepS hb e0 e1 e2 e3 e4 HR4d | exact keepC hb (by assumption) | go_keep)
                (first
                  | (go_at_call 20; refine (rcheck_any _ 0 k f 0 0 0 (by omega) (by omega) (by omega) (by omega)).mono ?_; rintro e w' ⟨rfl, hb⟩; rw [H0.out])
                  | (go_at_call 19; refine (code_nil _).mono ?_; rintro e w' ⟨rfl, rfl⟩))
              all_goals
                have HE := Lib.hid (invS (by assumption))
                go_wp2_with fail
                go_roundw
                case rel => exact ⟨f + 1, by omega, by go_num, by rw [HK.out]; go_num, HE.out⟩
                case measure => simp [intOf]; omega
            · obtain ⟨c, hc⟩ : ∃ c, c = chk 0 k f 0 0 0 := ⟨_, rfl⟩
              obtain rfl : v = sv (sa c) := by rw [hv.out, hc]; exact if_neg h0
              have HK : Hid (cFl k (f + 1) = cFl k f) := by show cFl k f + (if okF k f then 1 else 0) = _; rw [if_neg (by unfold okF; rw [hst]; simpa using h0)]; rfl
              have HE0 : Hid (∀ W, EV sa W c 0 (sv (sa c))) := fun W => .inr (.inl ⟨by omega, by have := HC.out; omega, rfl⟩)
              have H0 := Lib.hid hc
              clear h0 hv hst hc
              go_wp2_with fail
              go_region_held3 (fun w' => w'.cell? ⟨wr.heap.size, 0, none⟩ = some (.int .u8 0) ∧ w'.cell? ⟨wr.heap.size, 1, none⟩ = some (.int .u8 k) ∧ w'.cell? ⟨wr.heap.size, 2, none⟩ = some (.int .u16 f) ∧ w'.cell? ⟨wr.heap.size, 3, none⟩ = some (.int .u32 0) ∧ w'.cell? ⟨wr.heap.size, 4, none⟩ = some (.int .u32 0) ∧ Hid (Inv sa w w'))
                (first | exact keepS hb e0 e1 e2 e3 e4 HR4d | exact keepC hb (by assumption) | go_keep)
                (first
                  | (go_at_call 20; refine (rcheck_any _ 0 k f 0 0 0 (by omega) (by omega) (by omega) (by omega)).mono ?_; rintro e w' ⟨rfl, hb⟩; rw [← H0.out])
                  | (go_at_call 19; refine (code_any (sa := sa) ?_ (HE0.out _)).mono ?_; (first | exact HR4d.out.good | exact (invS (by assumption)).good); rintro e w' ⟨rfl, rfl⟩))
              all_goals
                have HE := Lib.hid (invS (by assumption))
                go_wp2_with fail
                go_roundw
                case rel => exact ⟨f + 1, by omega, by go_num, by rw [HK.out]; go_num, HE.out⟩
                case measure => simp [intOf]; omega
        · obtain rfl : f = 64 := by omega
          go_wp2_with fail
          go_roundw
          case rel => exact ⟨k + 1, by omega, by go_num, rfl, HR2⟩
          case measure => simp [intOf]; omega
    · obtain rfl : k = 6 := by omega
      go_wp2_with fail
      go_ret
      exact ⟨by rw [cTy_6]; rfl, HR.out.bel⟩
end Go.Proofs.YtfddhipdedcacaaDoor
