/-
 The reference's Text.
-/
import Derived.Test.YtidmgckmphcegaaGreatDoorME
namespace Go.Proofs.YtidmgckmphcegaaGreatDoor
open Go.RowKit
set_option linter.unusedVariables false
set_option linter.unusedSimpArgs false
theorem dec_step (n : Nat) (h : ¬ n < 10) : Lib.decDigits n = Lib.decDigits (n / 10) ++ [UInt8.ofNat (48 + n % 10)] := by
 rw [Lib.decDigits, dif_neg h]
theorem dec_last (n : Nat) (h : n < 10) : Lib.decDigits n = [UInt8.ofNat (48 + n)] := by
 rw [Lib.decDigits, dif_pos h]
def b1 (d : Nat) : ByteArray := ⟨#[UInt8.ofNat (48 + d)]⟩
theorem ba_app (a b : List UInt8) : (⟨a.toArray⟩ : ByteArray) ++ ⟨b.toArray⟩ = ⟨(a ++ b).toArray⟩ := by
 apply ByteArray.ext
 simp [ByteArray.data_append]
theorem b1_app (d : Nat) (t : List UInt8) : b1 d ++ (⟨t.toArray⟩ : ByteArray) = ⟨(UInt8.ofNat (48 + d) :: t).toArray⟩ := ba_app [_] t
theorem byteStr (W : World) (x : Int) (d : Nat) (hd : d < 10) (hx : x = 48 + (d : Int)) : (convert 26 9 (.slice (some ⟨W.heap.size, 0, none⟩) 1 1)).run Tryz.prog (W.alloc (.cells #[.int .u8 x] 5)) = .ok (.string (b1 d)) (W.alloc (.cells #[.int .u8 x] 5)) := by
 have h := run_convert_bytes_back (P := Tryz.prog) (W.alloc (.cells #[.int .u8 x] 5)) 26 9 5 ⟨W.heap.size, 0, none⟩ 1 [UInt8.ofNat (48 + d)] Tryz.underlying26 Tryz.underlying5 Tryz.underlying9 (fun j hj => by
  obtain rfl : j = 0 := by simpa using hj
  rw [Addr.add_lit, Nat.zero_add, World.cell?_alloc_new]
  have e : (UInt8.ofNat (48 + d)).toNat = 48 + d := by
   rw [UInt8.toNat_ofNat']
   omega
  simp [e, hx]
  omega)
 exact h
set_option maxRecDepth 100000 in
set_option maxHeartbeats 1000000 in
theorem rdigits (n : Nat) (hn : n ≤ 4294967295) (w : World) :
    Calls Tryz.prog 83 #[.int .i64 n] w fun e w' => e = .returned (.string (dec n)) ∧ Below w.heap.size w w' := by
 go_enter Tryz.func83, Tryz.ntmps83
 go_wp2_with fail
 go_loopw [0, 3] (fun m s wr => ∃ (k : Nat) (t : List UInt8), k ≤ 4294967295 ∧ m = .int .i64 k ∧ s = .string ⟨t.toArray⟩ ∧ Lib.decDigits n = Lib.decDigits k ++ t ∧ Hid (Below w.heap.size w wr)) (fun m _ _ => (intOf m).toNat)
 case atStart => exact ⟨n, [], hn, rfl, rfl, by simp, Below.refl _ _⟩
 case round =>
  obtain ⟨k, t, hk, rfl, rfl, ht, HB⟩ := hrel
  have hl : t.length ≤ 20 := by
   have h1 := congrArg List.length ht
   rw [List.length_append, Lib.decDigits_length, Lib.decDigits_length] at h1
   have h2 := Lib.nDigits_le20 n (by omega)
   omega
  have hz1 : (b1 k).size = 1 := rfl
  have hz2 : (b1 (k % 10)).size = 1 := rfl
  by_cases hlt : k < 10
  · have hcv := byteStr wr (48 + (k : Int)) k hlt rfl
    go_wp2_with fail
    go_ret
    refine ⟨?_, HB.out.alloc HB.out.size _⟩
    rw [b1_app, dec, ht, dec_last k hlt]
    rfl
  · have hcv := byteStr wr (48 + (k : Int) % 10) (k % 10) (by omega) (by omega)
    go_wp2_with fail
    refine ⟨⟨k / 10, UInt8.ofNat (48 + k % 10) :: t, by omega, by go_num, by rw [b1_app], by rw [ht, dec_step k hlt, List.append_assoc]; rfl, HB.out.alloc HB.out.size _⟩, ?_⟩
    simp [intOf]
    omega
def rkind (ty : Nat) : ByteArray := if ty < 4 then tyW ty else ⟨#[116, 121, 112, 101, 32]⟩ ++ dec ty
set_option maxRecDepth 100000 in
set_option maxHeartbeats 1000000 in
theorem rkind_any (ty : Nat) (hty : ty ≤ 255) (w : World) :
    Calls Tryz.prog 82 #[.int .u8 ty] w fun e w' => e = .returned (.string (rkind ty)) ∧ Below w.heap.size w w' := by
 have hzd : (dec ty).size ≤ 20 := dec_sml ty (by omega)
 by_cases h4 : ty < 4
 · rw [rkind, if_pos h4]
   obtain rfl | rfl | rfl | rfl : ty = 0 ∨ ty = 1 ∨ ty = 2 ∨ ty = 3 := by omega
   all_goals
    go_enter Tryz.func82, Tryz.ntmps82
    go_wp2_with fail
    go_ret
    exact ⟨rfl, Below.refl _ _⟩
 · rw [rkind, if_neg h4]
   go_enter Tryz.func82, Tryz.ntmps82
   go_wp2_with fail
   refine (rdigits ty (by omega) _).mono ?_
   rintro e w1 ⟨rfl, hb1⟩
   go_wp2_with fail
   go_ret
   exact ⟨rfl, hb1⟩
def rfl1 (fl : Nat) (bit : Int) (word : ByteArray) : ByteArray := if bits .and .u16 fl bit = 0 then ⟨#[]⟩ else ⟨#[32]⟩ ++ word
theorem rfl1_size (fl : Nat) (bit : Int) (word : ByteArray) (hw : word.size ≤ 20) : (rfl1 fl bit word).size ≤ 21 := by
 unfold rfl1
 split
 · exact Nat.zero_le _
 · rw [ByteArray.size_append]; show 1 + _ ≤ _; omega
set_option maxRecDepth 100000 in
theorem rflag_any (fl : Nat) (bit : Int) (word : ByteArray) (hw : word.size ≤ 20) (w : World) :
    Calls Tryz.prog 84 #[.int .u16 fl, .int .u16 bit, .string word] w fun e w' => e = .returned (.string (rfl1 fl bit word)) ∧ w' = w := by
 by_cases h : bits .and .u16 (fl : Int) bit = 0
 · rw [rfl1, if_pos h]
   have h' : (bits .and .u16 (fl : Int) bit == 0) = true := by rw [h]; rfl
   clear h
   go_enter Tryz.func84, Tryz.ntmps84
   go_wp2_with fail
   go_ret
   exact ⟨rfl, rfl⟩
 · rw [rfl1, if_neg h]
   have h' : (bits .and .u16 (fl : Int) bit == 0) = false := by simpa using h
   clear h
   go_enter Tryz.func84, Tryz.ntmps84
   go_wp2_with fail
   go_ret
   exact ⟨rfl, rfl⟩
structure Rt (w W : World) (ver ty fl st ln : Nat) : Prop where
 box : W.heap[w.heap.size]? = some (.cells #[.int .u8 ver, .int .u8 ty, .int .u16 fl, .int .u32 st, .int .u32 ln] 25 (0, 0))
 bel : Below w.heap.size w W
theorem Rt.next {w W W' : World} {ver ty fl st ln : Nat} (h : Rt w W ver ty fl st ln) (hb : Below W.heap.size W W') : Rt w W' ver ty fl st ln :=
 ⟨(hb.block _ (Array.getElem?_eq_some_iff.1 h.box).1).trans h.box, h.bel.trans (hb.mono h.bel.size)⟩
def rver (ty ver : Nat) : ByteArray := if ver = 0 then rkind ty else rkind ty ++ ⟨#[32, 118, 101, 114, 115, 105, 111, 110, 32]⟩ ++ dec ver
def rfls (ty ver fl : Nat) : ByteArray := rver ty ver ++ rfl1 fl 1 ⟨#[115, 121, 110]⟩ ++ rfl1 fl 2 ⟨#[97, 99, 107]⟩ ++ rfl1 fl 4 ⟨#[102, 105, 110]⟩ ++ rfl1 fl 8 ⟨#[114, 115, 116]⟩
def rrest (ty ver fl : Nat) : ByteArray := if fl ≤ 15 then rfls ty ver fl else rfls ty ver fl ++ ⟨#[32, 102, 108, 97, 103, 115, 32]⟩ ++ dec (fl / 16 * 16)
def rall (ver ty fl st ln : Nat) : ByteArray := rrest ty ver fl ++ ⟨#[32, 115, 116, 114, 101, 97, 109, 32]⟩ ++ dec st ++ ⟨#[32, 108, 101, 110, 103, 116, 104, 32]⟩ ++ dec ln
theorem rkind_size (ty : Nat) (h : ty ≤ 255) : (rkind ty).size ≤ 30 := by
 unfold rkind
 split
 · exact Nat.le_trans (tyW_sml ty) (by omega)
 · rw [ByteArray.size_append]; have : (dec ty).size ≤ 20 := dec_sml ty (by omega); show 5 + _ ≤ _; omega
theorem rver_size (ty ver : Nat) (h : ty ≤ 255) (hv : ver ≤ 255) : (rver ty ver).size ≤ 60 := by
 have h1 := rkind_size ty h
 have : (dec ver).size ≤ 20 := dec_sml ver (by omega)
 unfold rver
 split
 · omega
 · rw [ByteArray.size_append, ByteArray.size_append]; show _ + 9 + _ ≤ _; omega
theorem rfls_size (ty ver fl : Nat) (h : ty ≤ 255) (hv : ver ≤ 255) : (rfls ty ver fl).size ≤ 150 := by
 have h1 := rver_size ty ver h hv
 have a1 := rfl1_size fl 1 ⟨#[115, 121, 110]⟩ (by decide)
 have a2 := rfl1_size fl 2 ⟨#[97, 99, 107]⟩ (by decide)
 have a3 := rfl1_size fl 4 ⟨#[102, 105, 110]⟩ (by decide)
 have a4 := rfl1_size fl 8 ⟨#[114, 115, 116]⟩ (by decide)
 unfold rfls
 rw [ByteArray.size_append, ByteArray.size_append, ByteArray.size_append, ByteArray.size_append]
 omega
theorem rrest_size (ty ver fl : Nat) (h : ty ≤ 255) (hv : ver ≤ 255) (hf : fl ≤ 65535) : (rrest ty ver fl).size ≤ 180 := by
 have h1 := rfls_size ty ver fl h hv
 have : (dec (fl / 16 * 16)).size ≤ 20 := dec_sml _ (by omega)
 unfold rrest
 split
 · omega
 · rw [ByteArray.size_append, ByteArray.size_append]; show _ + 7 + _ ≤ _; omega
end Go.Proofs.YtidmgckmphcegaaGreatDoor
