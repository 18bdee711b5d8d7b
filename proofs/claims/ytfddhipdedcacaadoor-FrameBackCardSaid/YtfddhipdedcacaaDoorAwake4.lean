/-
  culvertlaw04.awake, and FrameChecks.
-/
import Derived.Test.YtfddhipdedcacaaDoorCheck
import Derived.Test.YtfddhipdedcacaaDoorRefCheck
import Derived.Test.YtfddhipdedcacaaDoorEnc
import Derived.Deep.RegionHeld3
namespace Go.Proofs.YtfddhipdedcacaaDoor
open Go.RowKit
set_option linter.unusedVariables false
set_option linter.unusedSimpArgs false

theorem own_u8 {w : World} {base : Nat} {g n c : Nat} {e : TypeId} {xs : List Int} (h : w.ownsRow base e 1 (.slice (some ⟨g, 0, none⟩) n c) n (nums .u8 xs)) : ∀ i, i < n → w.cell? ⟨g, 0 + i, none⟩ = some (.int .u8 (xs.getD i 0)) := by
  intro i hi
  have hl : xs.length = n := by have := h.1; simpa [nums] using this
  rw [Nat.zero_add, h.cellAt i (by omega)]
  simp [nums, List.getD_eq_getElem?_getD, List.getElem?_eq_getElem (show i < xs.length by omega)]

set_option maxRecDepth 100000 in
theorem awake4 {sa : Nat → Addr} {w : World} (hG : Good w sa) (hL : Lawful w) :
    Calls Tryd.prog 17 #[] w fun e w' => e = .returned (.bool true) ∧ Below w.heap.size w w' := by
  have HG := Lib.hid hG
  have HL := Lib.hid hL
  clear hG hL
  go_enter Tryd.func17, Tryd.ntmps17
  go_wp2_with fail
  refine (encode_any 0 1 1 1 262144 _ (by omega) (by omega) (by omega) (by omega) (by omega) (by omega)).mono ?_
  rintro e w1 ⟨g, rfl, ho1, hb1⟩
  have HG1 := Lib.hid (HG.out.below hb1)
  have HL1 := Lib.hid (HL.out.below hb1)
  have Ho1 := Lib.hid ho1
  have Hb1 := Lib.hid hb1
  clear ho1 hb1
  go_wp2_with fail
  refine (check_any HG1.out HL1.out 1 0 0 0 0 9 (by omega) (by omega) (by omega) (by omega)).mono ?_
  rintro e w2 ⟨rfl, hb2⟩
  have HG2 := Lib.hid (HG1.out.below hb2)
  have Ho2 := Lib.hid (own_below Ho1.out hb2)
  have Hb2 := Lib.hid (Hb1.out.trans (hb2.mono Hb1.out.size))
  clear hb2
  go_wp2_with fail
  rw [run_convert_bytes_arg (P := Tryd.prog) w2 38 5 Tryd.underlying38 Tryd.underlying5 g 0 12 12 (enc 0 1 1 1 262144) rfl (own_u8 Ho2.out) 9 Tryd.underlying9]
  have hs : (strOfNums (enc 0 1 1 1 262144)).toList = [0, 1, 0, 1, 0, 0, 0, 1, 0, 4, 0, 0] := by decide +kernel
  go_wp2_with fail
  refine (code_any HG2.out (errv_EV (c := chk 1 0 0 0 0 9) 0 (by decide))).mono ?_
  rintro e w3 ⟨rfl, rfl⟩
  have hk : chk 1 0 0 0 0 9 = 11 := by decide
  rw [hk]
  go_wp2_with fail
  go_ret
  exact ⟨rfl, Hb2.out⟩

/-- What stays through a law: api's errors, frame's table, what was there when the call began. -/
structure Inv (sa : Nat → Addr) (w w' : World) : Prop where
  good : Good w' sa
  law : Lawful w'
  bel : Below w.heap.size w w'
theorem Inv.next {sa : Nat → Addr} {w w1 w2 : World} (h : Inv sa w w1) (hb : Below w1.heap.size w1 w2) : Inv sa w w2 :=
  ⟨h.good.below hb, h.law.below hb, h.bel.trans (hb.mono h.bel.size)⟩
/-- A header's box. -/
def HB (g : Nat) (ver ty fl st ln : Int) (w : World) : Prop :=
  w.cell? ⟨g, 0, none⟩ = some (.int .u8 ver) ∧ w.cell? ⟨g, 1, none⟩ = some (.int .u8 ty) ∧ w.cell? ⟨g, 2, none⟩ = some (.int .u16 fl) ∧ w.cell? ⟨g, 3, none⟩ = some (.int .u32 st) ∧ w.cell? ⟨g, 4, none⟩ = some (.int .u32 ln)
theorem HB.next {g : Nat} {ver ty fl st ln : Int} {w1 w2 : World} (h : HB g ver ty fl st ln w1) (hb : Below w1.heap.size w1 w2) : HB g ver ty fl st ln w2 := by
  obtain ⟨h0, h1, h2, h3, h4⟩ := h
  have k : ∀ {a : Addr} {v : Value}, w1.cell? a = some v → w2.cell? a = some v := fun h => (hb.cell (World.block_lt_of_cell? w1 _ h)).trans h
  exact ⟨k h0, k h1, k h2, k h3, k h4⟩

theorem chk_le (ver ty fl st ln most : Int) : chk ver ty fl st ln most ≤ 42 := by
  unfold chk
  (repeat' split) <;> omega
theorem keepS {sa : Nat → Addr} {w W w' : World} {g : Nat} {ver ty fl st ln : Int} (hb : Below W.heap.size W w') (h0 : W.cell? ⟨g, 0, none⟩ = some (.int .u8 ver)) (h1 : W.cell? ⟨g, 1, none⟩ = some (.int .u8 ty)) (h2 : W.cell? ⟨g, 2, none⟩ = some (.int .u16 fl)) (h3 : W.cell? ⟨g, 3, none⟩ = some (.int .u32 st)) (h4 : W.cell? ⟨g, 4, none⟩ = some (.int .u32 ln)) (hi : Hid (Inv sa w W)) :
    w'.cell? ⟨g, 0, none⟩ = some (.int .u8 ver) ∧ w'.cell? ⟨g, 1, none⟩ = some (.int .u8 ty) ∧ w'.cell? ⟨g, 2, none⟩ = some (.int .u16 fl) ∧ w'.cell? ⟨g, 3, none⟩ = some (.int .u32 st) ∧ w'.cell? ⟨g, 4, none⟩ = some (.int .u32 ln) ∧ Hid (Inv sa w w') := by
  obtain ⟨k0, k1, k2, k3, k4⟩ := HB.next ⟨h0, h1, h2, h3, h4⟩ hb
  exact ⟨k0, k1, k2, k3, k4, hi.out.next hb⟩

theorem keepC {sa : Nat → Addr} {w W w' : World} {g : Nat} {ver ty fl st ln : Int} (hb : Below W.heap.size W w')
    (h : W.cell? ⟨g, 0, none⟩ = some (.int .u8 ver) ∧ W.cell? ⟨g, 1, none⟩ = some (.int .u8 ty) ∧ W.cell? ⟨g, 2, none⟩ = some (.int .u16 fl) ∧ W.cell? ⟨g, 3, none⟩ = some (.int .u32 st) ∧ W.cell? ⟨g, 4, none⟩ = some (.int .u32 ln) ∧ Hid (Inv sa w W)) :
    w'.cell? ⟨g, 0, none⟩ = some (.int .u8 ver) ∧ w'.cell? ⟨g, 1, none⟩ = some (.int .u8 ty) ∧ w'.cell? ⟨g, 2, none⟩ = some (.int .u16 fl) ∧ w'.cell? ⟨g, 3, none⟩ = some (.int .u32 st) ∧ w'.cell? ⟨g, 4, none⟩ = some (.int .u32 ln) ∧ Hid (Inv sa w w') :=
  keepS hb h.1 h.2.1 h.2.2.1 h.2.2.2.1 h.2.2.2.2.1 h.2.2.2.2.2
theorem invS {sa : Nat → Addr} {w W : World} {g : Nat} {ver ty fl st ln : Int}
    (h : W.cell? ⟨g, 0, none⟩ = some (.int .u8 ver) ∧ W.cell? ⟨g, 1, none⟩ = some (.int .u8 ty) ∧ W.cell? ⟨g, 2, none⟩ = some (.int .u16 fl) ∧ W.cell? ⟨g, 3, none⟩ = some (.int .u32 st) ∧ W.cell? ⟨g, 4, none⟩ = some (.int .u32 ln) ∧ Hid (Inv sa w W)) : Inv sa w W := h.2.2.2.2.2

set_option maxRecDepth 100000 in
theorem frameChecks_walk {sa : Nat → Addr} {w : World} (hG : Good w sa) (hL : Lawful w) (ver ty fl st ln most : Int) (h1 : 0 ≤ ty) (h2 : ty ≤ 255) (h3 : 0 ≤ ln) (h4 : ln ≤ 4294967295) :
    Calls Tryd.prog 4 #[hdr ver ty fl st ln, .int .i64 most] w fun e w' => e = .returned (.bool true) ∧ Below w.heap.size w w' := by
  have HG := Lib.hid hG
  have HL := Lib.hid hL
  clear hG hL
  go_enter Tryd.func4, Tryd.ntmps4
  go_wp2_with fail
  have hb0 : Below w.heap.size w (w.alloc (.cells #[.int .u8 ver, .int .u8 ty, .int .u16 fl, .int .u32 st, .int .u32 ln] 26)) := (Below.refl _ _).alloc (Nat.le_refl _) _
  refine (awake4 (HG.out.below hb0) (HL.out.below hb0)).mono ?_
  rintro e w1 ⟨rfl, hb1⟩
  have hbx : w1.heap[w.heap.size]? = some (.cells #[.int .u8 ver, .int .u8 ty, .int .u16 fl, .int .u32 st, .int .u32 ln] 26 (0, 0)) := (hb1.block _ (by simp)).trans (alloc_at _ _)
  have HB1 := hb0.trans (hb1.mono (by simp))
  have HI1 : Hid (Inv sa w w1) := ⟨HG.out.below HB1, HL.out.below HB1, HB1⟩
  have e0 : w1.cell? ⟨w.heap.size, 0, none⟩ = some (.int .u8 ver) := cell_blk hbx rfl
  have e1 : w1.cell? ⟨w.heap.size, 1, none⟩ = some (.int .u8 ty) := cell_blk hbx rfl
  have e2 : w1.cell? ⟨w.heap.size, 2, none⟩ = some (.int .u16 fl) := cell_blk hbx rfl
  have e3 : w1.cell? ⟨w.heap.size, 3, none⟩ = some (.int .u32 st) := cell_blk hbx rfl
  have e4 : w1.cell? ⟨w.heap.size, 4, none⟩ = some (.int .u32 ln) := cell_blk hbx rfl
  have HI1d : Hid (Inv sa w w1.drew) := HI1.out.next (Below.refl _ _).drew
  clear hb0 hb1 hbx HB1
  go_wp2_with fail
  have hk42 := Lib.hid (chk_le ver ty fl st ln most)
  go_region_held3 (fun w' => w'.cell? ⟨w.heap.size, 0, none⟩ = some (.int .u8 ver) ∧ w'.cell? ⟨w.heap.size, 1, none⟩ = some (.int .u8 ty) ∧ w'.cell? ⟨w.heap.size, 2, none⟩ = some (.int .u16 fl) ∧ w'.cell? ⟨w.heap.size, 3, none⟩ = some (.int .u32 st) ∧ w'.cell? ⟨w.heap.size, 4, none⟩ = some (.int .u32 ln) ∧ Hid (Inv sa w w'))
    (first | exact keepS hb e0 e1 e2 e3 e4 HI1d | exact keepC hb (by assumption) | go_keep)
    (first
      | (go_at_call 18; refine (check_any (sa := sa) ?_ ?_ _ _ _ _ _ _ h1 h2 h3 h4).mono ?_; (first | exact HI1d.out.good | exact (invS (by assumption)).good); (first | exact HI1d.out.law | exact (invS (by assumption)).law); rintro e w' ⟨rfl, hb⟩)
      | (go_at_call 20; refine (rcheck_any _ _ _ _ _ _ _ h1 h2 h3 h4).mono ?_; rintro e w' ⟨rfl, hb⟩)
      | (go_at_call 19; refine (code_any (sa := sa) ?_ (errv_EV (c := chk ver ty fl st ln most) 0 hk42.out)).mono ?_; (exact (invS (by assumption)).good); rintro e w' ⟨rfl, rfl⟩))
  go_wp2_with fail
  go_ret
  exact ⟨rfl, (invS (by assumption)).bel⟩
end Go.Proofs.YtfddhipdedcacaaDoor
