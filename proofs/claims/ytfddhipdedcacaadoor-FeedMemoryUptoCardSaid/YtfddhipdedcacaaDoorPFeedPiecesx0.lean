-- PRINTED BY print.sh 35421559b90ae4d0a3588c463048766b98c2df88dd9212a6774a882060cdf62d: not written by this session
import Derived.Test.YtfddhipdedcacaaDoorProg
import Derived.Below
import Derived.Deep.Draws
import Derived.Deep.AppendLies
import Derived.Maps.AppendAt
import Derived.OwnWalk
import Derived.Laws.BytesArg
import Derived.Laws.MakeOwn
import Derived.Laws.OwnMore
import Derived.Deep.OwnRows
import Derived.Tactics
import Derived.Lib.ConvBytes
import Derived.Laws.Slices
import Derived.WalkKit
import Derived.KernelRfl
import Derived.RowKit3
import Derived.Deep.LoopGhost
import Derived.Deep.QuietTactic
import Derived.BigQuiet
import Derived.WideLaws
import Derived.Deep.DeepCutAuto
import Derived.Deep.CutBlock
import Derived.Deep.RegionHeld3
import Derived.Laws.Rows
import Derived.Lib.AppendStr
import Derived.ArgAppend
import Derived.Laws.IdiomCopy
import Derived.OrdersHeld
import Derived.Laws.BitsLemmas
import Derived.RowKit
import Derived.Test.YtfddhipdedcacaaDoorWWords
import Derived.Test.YtfddhipdedcacaaDoorWLast
import Derived.Test.YtfddhipdedcacaaDoorWTab
import Derived.Test.YtfddhipdedcacaaDoorWFour
import Derived.Test.YtfddhipdedcacaaDoorWQPut
import Derived.Test.YtfddhipdedcacaaDoorWApart
import Derived.Test.YtfddhipdedcacaaDoorWArr
import Derived.Test.YtfddhipdedcacaaDoorWZeros
import Derived.Test.YtfddhipdedcacaaDoorWFoot
import Derived.Test.YtfddhipdedcacaaDoorWKept
import Derived.Test.YtfddhipdedcacaaDoorWShare
import Derived.Test.YtfddhipdedcacaaDoorWN
import Derived.Test.YtfddhipdedcacaaDoorWFootNe
import Derived.Test.YtfddhipdedcacaaDoorWAt
import Derived.Test.YtfddhipdedcacaaDoorWEqStruct
import Derived.Test.YtfddhipdedcacaaDoorWRepsOne
import Derived.Test.YtfddhipdedcacaaDoorWInv
import Derived.Test.YtfddhipdedcacaaDoorWInvWords
import Derived.Test.YtfddhipdedcacaaDoorWGuard
import Derived.Test.YtfddhipdedcacaaDoorWNEv
import Derived.Test.YtfddhipdedcacaaDoorWMore
namespace Go.Proofs.YtfddhipdedcacaaDoor.PFeedPieces
open Go.RowKit Go.Proofs.YtfddhipdedcacaaDoorW.PrintWords Go.Proofs.YtfddhipdedcacaaDoorW.PrintLast Go.Proofs.YtfddhipdedcacaaDoorW.PrintMore
attribute [local go_sem] max2_int min2_int max_two min_two max_three min_three max_four min_four   -- for this text's walks alone
set_option linter.unusedVariables false
set_option linter.unusedSimpArgs false



def errW : Option Int → Value
  | none => .nilIface
  | some c => .iface 0 (.int .i64 c)
theorem errW_none : errW none = .nilIface := rfl
theorem errW_some (c : Int) : errW (some c) = .iface 0 (.int .i64 c) := rfl

-- the values' own types
/-! #### struct type 26 -/
structure S26 where
  f0 : Int
  f1 : Int
  f2 : Int
  f3 : Int
  f4 : Int
def z26 : S26 := ⟨(0 : Int), (0 : Int), (0 : Int), (0 : Int), (0 : Int)⟩
def k26 : Kd S26 := Kd.iso (Kd.pair (Kd.int .u8) (Kd.pair (Kd.int .u8) (Kd.pair (Kd.int .u16) (Kd.pair (Kd.int .u32) (Kd.int .u32))))) (fun x : S26 => (x.f0, x.f1, x.f2, x.f3, x.f4))
theorem k26_open {w : World} {x : S26} {cs : List Value} (h : k26.K w x cs) : cs = [.int .u8 x.f0, .int .u8 x.f1, .int .u16 x.f2, .int .u32 x.f3, .int .u32 x.f4] := by
  obtain ⟨_, _, rfl, rfl, ⟨_, _, rfl, rfl, ⟨_, _, rfl, rfl, ⟨_, _, rfl, rfl, rfl⟩⟩⟩⟩ := h
  exact rfl
theorem k26_openM {w : World} {base : Nat} {ok : Nat → Prop} {x : S26} {cs : List Value} (h : k26.M w base ok x cs) : cs = [.int .u8 x.f0, .int .u8 x.f1, .int .u16 x.f2, .int .u32 x.f3, .int .u32 x.f4] := by
  obtain ⟨_, _, rfl, rfl, ⟨_, _, rfl, rfl, ⟨_, _, rfl, rfl, ⟨_, _, rfl, rfl, rfl⟩⟩⟩⟩ := h
  exact rfl
theorem k26_mk (w : World) (x : S26)  : k26.K w x [.int .u8 x.f0, .int .u8 x.f1, .int .u16 x.f2, .int .u32 x.f3, .int .u32 x.f4] := ⟨[.int .u8 x.f0], [.int .u8 x.f1, .int .u16 x.f2, .int .u32 x.f3, .int .u32 x.f4], rfl, rfl, ⟨[.int .u8 x.f1], [.int .u16 x.f2, .int .u32 x.f3, .int .u32 x.f4], rfl, rfl, ⟨[.int .u16 x.f2], [.int .u32 x.f3, .int .u32 x.f4], rfl, rfl, ⟨[.int .u32 x.f3], [.int .u32 x.f4], rfl, rfl, rfl⟩⟩⟩⟩
theorem k26_mkM (w : World) (base : Nat) (ok : Nat → Prop) (x : S26)  : k26.M w base ok x [.int .u8 x.f0, .int .u8 x.f1, .int .u16 x.f2, .int .u32 x.f3, .int .u32 x.f4] := ⟨[.int .u8 x.f0], [.int .u8 x.f1, .int .u16 x.f2, .int .u32 x.f3, .int .u32 x.f4], rfl, rfl, ⟨[.int .u8 x.f1], [.int .u16 x.f2, .int .u32 x.f3, .int .u32 x.f4], rfl, rfl, ⟨[.int .u16 x.f2], [.int .u32 x.f3, .int .u32 x.f4], rfl, rfl, ⟨[.int .u32 x.f3], [.int .u32 x.f4], rfl, rfl, rfl⟩⟩⟩⟩
def rd_T26 (xs : List S26) (i : Int) : S26 := xs.getD i.toNat z26
theorem at_T26 {w : World} {A : Option Addr} {n : Nat} {xs : List S26} (h : Kd.C k26 w A n xs) (i : Int) (h0 : 0 ≤ i) (h1 : i < n) : ∃ ad , A = some ad ∧ w.cell? (ad.add (i.toNat * 5)) = some (.int .u8 (rd_T26 xs i).f0) ∧ w.cell? ⟨(ad.add (i.toNat * 5)).block, (ad.add (i.toNat * 5)).off + 1, none⟩ = some (.int .u8 (rd_T26 xs i).f1) ∧ w.cell? ⟨(ad.add (i.toNat * 5)).block, (ad.add (i.toNat * 5)).off + 2, none⟩ = some (.int .u16 (rd_T26 xs i).f2) ∧ w.cell? ⟨(ad.add (i.toNat * 5)).block, (ad.add (i.toNat * 5)).off + 3, none⟩ = some (.int .u32 (rd_T26 xs i).f3) ∧ w.cell? ⟨(ad.add (i.toNat * 5)).block, (ad.add (i.toNat * 5)).off + 4, none⟩ = some (.int .u32 (rd_T26 xs i).f4) := by
  obtain ⟨ad, c, e, _, hK, hc0⟩ := Kd.C_get h z26 i h0 h1
  have hc : ∀ j u, c[j]? = some u → w.cell? (ad.add (i.toNat * 5 + j)) = some u := hc0
  obtain rfl := k26_open hK
  exact ⟨ad, e, hc 0 _ rfl, by rw [← add_field _ _ 1 (by omega)]; exact hc 1 _ rfl, by rw [← add_field _ _ 2 (by omega)]; exact hc 2 _ rfl, by rw [← add_field _ _ 3 (by omega)]; exact hc 3 _ rfl, by rw [← add_field _ _ 4 (by omega)]; exact hc 4 _ rfl⟩

def rd_L4 (xs : List (List Int)) (i : Int) : (List Int) := xs.getD i.toNat ([] : List Int)
theorem at_L4 {w : World} {A : Option Addr} {n : Nat} {xs : List (List Int)} (h : Kd.C (Kd.slice 5 (Kd.int .u8)) w A n xs) (i : Int) (h0 : 0 ≤ i) (h1 : i < n) : ∃ ad A0 c0, A = some ad ∧ w.cell? (ad.add i.toNat) = some (.slice A0 (rd_L4 xs i).length c0) ∧ (rd_L4 xs i).length ≤ c0 ∧ (Kd.int .u8).C w A0 (rd_L4 xs i).length (rd_L4 xs i) := by
  obtain ⟨ad, c, e, _, hK, hc0⟩ := Kd.C_get h ([] : List Int) i h0 h1
  have hc : ∀ j u, c[j]? = some u → w.cell? (ad.add (i.toNat * 1 + j)) = some u := hc0
  obtain ⟨A0, c0, rfl, l0, g0⟩ := hK
  exact ⟨ad, A0, c0, e, by have hq := hc 0 _ rfl; rwa [Nat.mul_one, Nat.add_zero] at hq, l0, g0⟩

/-! #### struct type 45 -/
structure S45 where
  f0 : S26
  f1 : (List Int)
def z45 : S45 := ⟨z26, ([] : List Int)⟩
def k45 : Kd S45 := Kd.iso (Kd.pair k26 (Kd.slice 5 (Kd.int .u8))) (fun x : S45 => (x.f0, x.f1))
theorem k45_open {w : World} {x : S45} {cs : List Value} (h : k45.K w x cs) : ∃ A5 c5, cs = [.int .u8 x.f0.f0, .int .u8 x.f0.f1, .int .u16 x.f0.f2, .int .u32 x.f0.f3, .int .u32 x.f0.f4, .slice A5 x.f1.length c5] ∧ x.f1.length ≤ c5 ∧ (Kd.int .u8).C w A5 x.f1.length x.f1 := by
  obtain ⟨_, _, rfl, s0, ⟨A5, c5, rfl, l5, g5⟩⟩ := h
  obtain rfl := k26_open s0
  exact ⟨A5, c5, rfl, l5, g5⟩
theorem k45_openM {w : World} {base : Nat} {ok : Nat → Prop} {x : S45} {cs : List Value} (h : k45.M w base ok x cs) : ∃ v5, cs = [.int .u8 x.f0.f0, .int .u8 x.f0.f1, .int .u16 x.f0.f2, .int .u32 x.f0.f3, .int .u32 x.f0.f4, v5] ∧ (Kd.int .u8).R 5 w base ok v5 x.f1 := by
  obtain ⟨_, _, rfl, s0, ⟨v5, rfl, g5⟩⟩ := h
  obtain rfl := k26_openM s0
  exact ⟨v5, rfl, g5⟩
theorem k45_mk (w : World) (x : S45) {A5 : Option Addr} {c5 : Nat} (l5 : x.f1.length ≤ c5) (g5 : (Kd.int .u8).C w A5 x.f1.length x.f1) : k45.K w x [.int .u8 x.f0.f0, .int .u8 x.f0.f1, .int .u16 x.f0.f2, .int .u32 x.f0.f3, .int .u32 x.f0.f4, .slice A5 x.f1.length c5] := ⟨[.int .u8 x.f0.f0, .int .u8 x.f0.f1, .int .u16 x.f0.f2, .int .u32 x.f0.f3, .int .u32 x.f0.f4], [.slice A5 x.f1.length c5], rfl, (k26_mk w x.f0 ), ⟨A5, c5, rfl, l5, g5⟩⟩
theorem k45_mkM (w : World) (base : Nat) (ok : Nat → Prop) (x : S45) {v5 : Value} (g5 : (Kd.int .u8).R 5 w base ok v5 x.f1) : k45.M w base ok x [.int .u8 x.f0.f0, .int .u8 x.f0.f1, .int .u16 x.f0.f2, .int .u32 x.f0.f3, .int .u32 x.f0.f4, v5] := ⟨[.int .u8 x.f0.f0, .int .u8 x.f0.f1, .int .u16 x.f0.f2, .int .u32 x.f0.f3, .int .u32 x.f0.f4], [v5], rfl, (k26_mkM w base ok x.f0 ), ⟨v5, rfl, g5⟩⟩
def rd_T45 (xs : List S45) (i : Int) : S45 := xs.getD i.toNat z45
theorem at_T45 {w : World} {A : Option Addr} {n : Nat} {xs : List S45} (h : Kd.C k45 w A n xs) (i : Int) (h0 : 0 ≤ i) (h1 : i < n) : ∃ ad A5 c5, A = some ad ∧ w.cell? (ad.add (i.toNat * 6)) = some (.int .u8 (rd_T45 xs i).f0.f0) ∧ w.cell? ⟨(ad.add (i.toNat * 6)).block, (ad.add (i.toNat * 6)).off + 1, none⟩ = some (.int .u8 (rd_T45 xs i).f0.f1) ∧ w.cell? ⟨(ad.add (i.toNat * 6)).block, (ad.add (i.toNat * 6)).off + 2, none⟩ = some (.int .u16 (rd_T45 xs i).f0.f2) ∧ w.cell? ⟨(ad.add (i.toNat * 6)).block, (ad.add (i.toNat * 6)).off + 3, none⟩ = some (.int .u32 (rd_T45 xs i).f0.f3) ∧ w.cell? ⟨(ad.add (i.toNat * 6)).block, (ad.add (i.toNat * 6)).off + 4, none⟩ = some (.int .u32 (rd_T45 xs i).f0.f4) ∧ w.cell? ⟨(ad.add (i.toNat * 6)).block, (ad.add (i.toNat * 6)).off + 5, none⟩ = some (.slice A5 (rd_T45 xs i).f1.length c5) ∧ (rd_T45 xs i).f1.length ≤ c5 ∧ (Kd.int .u8).C w A5 (rd_T45 xs i).f1.length (rd_T45 xs i).f1 := by
  obtain ⟨ad, c, e, _, hK, hc0⟩ := Kd.C_get h z45 i h0 h1
  have hc : ∀ j u, c[j]? = some u → w.cell? (ad.add (i.toNat * 6 + j)) = some u := hc0
  obtain ⟨A5, c5, rfl, l5, g5⟩ := k45_open hK
  exact ⟨ad, A5, c5, e, hc 0 _ rfl, by rw [← add_field _ _ 1 (by omega)]; exact hc 1 _ rfl, by rw [← add_field _ _ 2 (by omega)]; exact hc 2 _ rfl, by rw [← add_field _ _ 3 (by omega)]; exact hc 3 _ rfl, by rw [← add_field _ _ 4 (by omega)]; exact hc 4 _ rfl, by rw [← add_field _ _ 5 (by omega)]; exact hc 5 _ rfl, l5, g5⟩

end Go.Proofs.YtfddhipdedcacaaDoor.PFeedPieces
