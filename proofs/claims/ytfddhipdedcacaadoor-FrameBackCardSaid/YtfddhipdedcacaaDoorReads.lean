/-
  FrameReads: the law's walk.
-/
import Derived.Test.YtfddhipdedcacaaDoorAwake4
import Derived.Test.YtfddhipdedcacaaDoorGet
namespace Go.Proofs.YtfddhipdedcacaaDoor
open Go.RowKit
set_option linter.unusedVariables false
set_option linter.unusedSimpArgs false

/-- What Decode answers, of whatever bytes. -/
def D0 (xs : List Int) : Int := if xs.length < 12 then 0 else gd xs 0
def D1 (xs : List Int) : Int := if xs.length < 12 then 0 else gd xs 1
def D2 (xs : List Int) : Int := if xs.length < 12 then 0 else dFl xs
def D3 (xs : List Int) : Int := if xs.length < 12 then 0 else dSt xs
def D4 (xs : List Int) : Int := if xs.length < 12 then 0 else dLn xs
def DE (xs : List Int) : Nat := if xs.length < 12 then 3 else 0
theorem DE_le (xs : List Int) : DE xs ≤ 42 := by unfold DE; split <;> omega
theorem decode_any {sa : Nat → Addr} {A : Option Addr} {n c : Nat} {xs : List Int} {w : World} (hG : Good w sa) (hB : Bs w A n c xs) :
    Calls Tryd.prog 25 #[.slice A n c] w fun e w' => e = .returned (.tuple #[hdr (D0 xs) (D1 xs) (D2 xs) (D3 xs) (D4 xs), errv sa (DE xs)]) ∧ Below w.heap.size w w' := by
  have hl := hB.len
  unfold D0 D1 D2 D3 D4 DE
  by_cases hn : n < 12
  · have hx : xs.length < 12 := by omega
    simp only [if_pos hx]
    exact decode_no A n c w hG hn
  · have hx : ¬ xs.length < 12 := by omega
    simp only [if_neg hx]
    obtain ⟨b, o, rfl, hr⟩ := hB.rd (by omega)
    exact decode_yes b o n c xs w (by omega) hB.cap hB.max (fun j hj => hr j (by omega)) hB.bytes
theorem rdecode_any {A : Option Addr} {n c : Nat} {xs : List Int} {w : World} (hB : Bs w A n c xs) :
    Calls Tryd.prog 26 #[.slice A n c] w fun e w' => e = .returned (.tuple #[hdr (D0 xs) (D1 xs) (D2 xs) (D3 xs) (D4 xs), .int .i64 (DE xs)]) ∧ Below w.heap.size w w' := by
  have hl := hB.len
  unfold D0 D1 D2 D3 D4 DE
  by_cases hn : n < 12
  · have hx : xs.length < 12 := by omega
    simp only [if_pos hx]
    exact rdecode_no A n c w hn
  · have hx : ¬ xs.length < 12 := by omega
    simp only [if_neg hx]
    obtain ⟨b, o, rfl, hr⟩ := hB.rd (by omega)
    exact rdecode_yes b o n c xs w (by omega) hB

set_option maxRecDepth 100000 in
set_option maxHeartbeats 1000000 in
theorem frameReads_walk {sa : Nat → Addr} {w : World} (hG : Good w sa) (hL : Lawful w) {A : Option Addr} {n c : Nat} {xs : List Int} (hb : Bs w A n c xs) (hsz : n ≤ 140737488351232) :
    Calls Tryd.prog 6 #[.slice A n c] w fun e w' => e = .returned (.bool true) ∧ Below w.heap.size w w' := by
  have HI : Hid (Inv sa w w) := ⟨hG, hL, Below.refl _ _⟩
  have HB := Lib.hid hb
  clear hG hL hb
  go_enter Tryd.func6, Tryd.ntmps6
  go_wp2_with fail
  refine (awake4 HI.out.good HI.out.law).mono ?_
  rintro e w1 ⟨rfl, hb1⟩
  have HI1 := Lib.hid (HI.out.next hb1)
  have HB1 := Lib.hid (HB.out.next hb1)
  clear hb1
  have hn0 := HB1.out.len
  have HS1 := Lib.hid HI1.out.bel.size
  go_wp2_with (at_builtin; refine wpList_append_bs rfl _ _ rfl w1.heap.size (.slice (some ⟨w1.heap.size, 0, none⟩) 0 0) [] rfl (own_new w1 _ [] (Nat.le_refl _) (by simp)) A n c xs rfl (HB1.out.next ((Below.refl _ _).alloc (Nat.le_refl _) _)) (by simp; omega) (by simp) ?_; intro v2 w2 ho2 hg2 hz2; have HO2 := Lib.hid ho2; have HG2 := Lib.hid hg2; have HZ2 := Lib.hid hz2; clear ho2 hg2 hz2)
  have hb12 : Below w1.heap.size w1 w2 := ((Below.refl _ _).alloc (Nat.le_refl _) _).grown HG2.out (by simp) (fun k hk => by cases hk; exact Nat.le_refl _)
  have HI2 := Lib.hid (HI1.out.next hb12)
  have HB2 := Lib.hid (HB1.out.next hb12)
  obtain ⟨A2, c2, hv2, hC2⟩ := Own.bs (xs := xs) HO2.out HB1.out.byt
  subst hv2
  have HC2 := Lib.hid hC2
  clear HO2 HG2 HZ2 hb12 HS1 hC2
  refine (decode_any (sa := sa) HI2.out.good HC2.out).mono ?_
  rintro e w3 ⟨rfl, hb3⟩
  have HI3 := Lib.hid (HI2.out.next hb3)
  have HB3 := Lib.hid (HB2.out.next hb3)
  clear hb3
  go_wp2_with fail
  have hb3' : Below w3.heap.size w3 (w3.alloc (.cells #[.int .u8 (D0 xs), .int .u8 (D1 xs), .int .u16 (D2 xs), .int .u32 (D3 xs), .int .u32 (D4 xs)] 26)) := (Below.refl _ _).alloc (Nat.le_refl _) _
  refine (rdecode_any (HB3.out.next hb3')).mono ?_
  rintro e w4 ⟨rfl, hb4⟩
  have hx : w4.heap[w3.heap.size]? = some (.cells #[.int .u8 (D0 xs), .int .u8 (D1 xs), .int .u16 (D2 xs), .int .u32 (D3 xs), .int .u32 (D4 xs)] 26 (0, 0)) := (hb4.block _ (by simp)).trans (alloc_at _ _)
  have hb34 := hb3'.trans (hb4.mono (by simp))
  have HI4 := Lib.hid ((HI3.out.next hb34).next ((Below.refl _ _).alloc (Nat.le_refl _) (.cells #[.int .u8 (D0 xs), .int .u8 (D1 xs), .int .u16 (D2 xs), .int .u32 (D3 xs), .int .u32 (D4 xs)] 26)))
  have e0 : w4.cell? ⟨w3.heap.size, 0, none⟩ = some (.int .u8 (D0 xs)) := cell_blk hx rfl
  have e1 : w4.cell? ⟨w3.heap.size, 1, none⟩ = some (.int .u8 (D1 xs)) := cell_blk hx rfl
  have e2 : w4.cell? ⟨w3.heap.size, 2, none⟩ = some (.int .u16 (D2 xs)) := cell_blk hx rfl
  have e3 : w4.cell? ⟨w3.heap.size, 3, none⟩ = some (.int .u32 (D3 xs)) := cell_blk hx rfl
  have e4 : w4.cell? ⟨w3.heap.size, 4, none⟩ = some (.int .u32 (D4 xs)) := cell_blk hx rfl
  have hlt : w3.heap.size < w4.heap.size := by have := hb4.size; simp at this; omega
  clear hx hb3' hb4 hb34
  go_wp2_with fail
  refine (code_any HI4.out.good (errv_EV 0 (DE_le xs))).mono ?_
  rintro e w5 ⟨rfl, rfl⟩
  go_wp2_with fail
  go_ret
  exact ⟨rfl, HI4.out.bel⟩
end Go.Proofs.YtfddhipdedcacaaDoor
