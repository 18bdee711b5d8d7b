/-
 culvertref26.Parse.
-/
import Derived.Test.YtidmgckmphcegaaGreatDoorTRHdr
import Derived.Test.YtidmgckmphcegaaGreatDoorMI
namespace Go.Proofs.YtidmgckmphcegaaGreatDoor
open Go Go.RowKit Go.Proofs.YtidmgckmphcegaaGreatDoorW.PrintWords Go.Proofs.YtidmgckmphcegaaGreatDoorW.PrintLast Go.Proofs.YtidmgckmphcegaaGreatDoorW.PrintMore Go.Proofs.YtidmgckmphcegaaGreatDoor.Px Go.Proofs.YtidmgckmphcegaaGreatDoor.PTapAssembles
set_option linter.unusedVariables false
set_option linter.unusedSimpArgs false
def fzc : Array Value := #[.int .u8 0, .int .u8 0, .int .u16 0, .int .u32 0, .int .u32 0, .slice none 0 0]
def FZ (w : World) (g : Nat) : Prop := w.heap[g]? = some (.cells fzc 28 (0, 0))
theorem FZ.keep {w w' : World} {g : Nat} (h : FZ w g) (hb : Below w.heap.size w w') : FZ w' g := keepB hb h
def RParTo (line : List UInt8) (w : World) (e : Ending) (w' : World) : Prop :=
 Below w.heap.size w w' ∧ match rparse line with
 | .error k => e = .returned (.tuple #[frm 0 0 0 0 0 none 0 0, .int .i64 k])
 | .ok (h, d) => ∃ A c, e = .returned (.tuple #[frm h.ver h.ty h.fl h.st h.ln A d.length c, .int .i64 0]) ∧ Kd.R (Kd.int .u8) 5 w' w.heap.size (fun _ => True) (.slice A d.length c) d
theorem rhdr_ln (ty : Nat) (ws : Wds) (bad : Bool) : (rhdrW ty ws bad).1.ln ≤ 4294967295 := by
 have hu : ∀ y : Int, (IntKind.u32.wrap y).toNat ≤ 4294967295 := fun y => by
  have : IntKind.u32.wrap y = y % 4294967296 := rfl
  rw [this]; omega
 exact hu _
theorem last_t {a n : Nat} (h : a + 1 = n) : ((a : Int) == (n : Int) - 1) = true := by rw [beq_iff_eq]; omega
theorem last_f {a n : Nat} (h : a + 1 ≠ n) : ((a : Int) == (n : Int) - 1) = false := by rw [beq_eq_false_iff_ne]; omega
theorem nat_eq' {a b : Nat} (h : a = b) : ((a : Int) == (b : Int)) = true := by rw [h]; exact beq_self_eq_true _
theorem size_piece {line : ByteArray} {r : List ByteArray} (hrl : lsw r = spl 32 line.data.toList) {x : ByteArray} (hx : x ∈ r) : x.size ≤ line.size := by
 have h1 := spl_len 32 line.data.toList x.data.toList (by rw [← hrl]; exact List.mem_map_of_mem (f := fun y : ByteArray => y.data.toList) hx)
 have h2 : x.data.toList.length = x.size := by simp
 have h3 : line.data.toList.length = line.size := by simp
 omega
theorem size_all {line : ByteArray} {r : List ByteArray} (hs : line.size < 8796093022208) (hrl : lsw r = spl 32 line.data.toList) : ∀ x ∈ r, x.size < 140737488355328 ∧ x.size ≤ 4611686018427387904 := fun x hx => by
 have := size_piece hrl hx
 omega
theorem count_all {line : ByteArray} {r : List ByteArray} (hs : line.size < 8796093022208) (hrl : lsw r = spl 32 line.data.toList) : 1 ≤ r.length ∧ r.length ≤ 140737488355328 := by
 have h1 := spl_count 32 line.data.toList
 have h2 := spl_ne 32 line.data.toList
 rw [← hrl] at h1 h2
 rw [lsw_len] at h1
 have h3 : line.data.toList.length = line.size := by simp
 refine ⟨?_, by omega⟩
 cases r with
 | nil => exact absurd rfl h2
 | cons _ _ => simp
theorem left_len {n a k : Nat} (h : a + 1 = n) (e : k = n - a) : ¬ (k ≠ 1) := by omega
theorem left_len' {n a k : Nat} (h : a + 1 ≠ n) (e : k = n - a) (h1 : 1 ≤ n) (ha : a ≤ n) : k ≠ 1 := by omega
theorem left_z {n a k : Nat} (h : a = n) (e : k = n - a) : ¬ (k ≠ 0) := by omega
theorem left_z' {n a k : Nat} (h : a ≠ n) (e : k = n - a) (ha : a ≤ n) : k ≠ 0 := by omega
theorem lt_cast {a n : Nat} (h : a + 1 = n) : (a : Int) < (n : Int) := by omega
theorem nat_ne {a b : Nat} (h : a ≠ b) : ((a : Int) == (b : Int)) = false := by rw [beq_eq_false_iff_ne]; omega
theorem wrap64_u32 {n : Nat} (h : n ≤ 4294967295) : wrap64 (n : Int) = n := by unfold wrap64; omega
theorem rp_none {line : List UInt8} (h : rkindW (spl 32 line) = none) : rparse line = .error 40 := by unfold rparse; rw [h]
theorem rp_bad {line : List UInt8} {ty : Nat} {ws : Wds} {bad : Bool} (h : rkindW (spl 32 line) = some (ty, ws, bad)) (hb : (rhdrW ty ws bad).2.2 = true) : rparse line = .error 41 := by
 unfold rparse; rw [h]; simp only [hb, if_true]
theorem rp_ok {line : List UInt8} {ty : Nat} {ws : Wds} {bad : Bool} (h : rkindW (spl 32 line) = some (ty, ws, bad)) (hb : (rhdrW ty ws bad).2.2 = false) : rparse line = if ty ≠ 0 then (if (rhdrW ty ws bad).2.1.length ≠ 0 then .error 41 else .ok ((rhdrW ty ws bad).1, []))
    else if (rhdrW ty ws bad).2.1.length ≠ 1 then .error 41
    else match read ((rhdrW ty ws bad).2.1.headD []) with
     | none => .error 41
     | some d => if d.length ≠ (rhdrW ty ws bad).1.ln then .error 15 else .ok ((rhdrW ty ws bad).1, d) := by
 unfold rparse; rw [h]
 simp only [hb, Bool.false_eq_true, if_false]
 rfl
set_option maxRecDepth 100000 in
set_option maxHeartbeats 8000000 in
theorem rparse_any (line : ByteArray) (hs : line.size < 8796093022208) (w : World) :
    Calls Tryz.prog 20 #[.string line] w (RParTo line.data.toList w) := by
 obtain ⟨r, hr, hrl⟩ := split_f line hs
 have hrl' : lsw r = spl 32 line.data.toList := hrl
 obtain ⟨hr1, hrn⟩ := count_all hs hrl'
 have hrz : ∀ x ∈ r, x.size ≤ 4611686018427387904 := fun x hx => (size_all hs hrl' x hx).2
 obtain ⟨w1, hw1⟩ : ∃ w1, w1 = w.alloc (.cells fzc 28) := ⟨_, rfl⟩
 have hz1 : FZ w1 w.heap.size := by rw [hw1]; exact alloc_at _ _
 have hb1 : Below w.heap.size w w1 := by rw [hw1]; exact (Below.refl _ _).alloc (Nat.le_refl _) _
 unfold fzc at hw1
 have HR := Lib.hid hr
 have HS := Lib.hid hs
 have HRL := Lib.hid hrl'
 have HRZ := Lib.hid hrz
 have HZ1 := Lib.hid hz1
 have HB1 := Lib.hid hb1
 have HW1 := Lib.hid hw1
 clear hr hs hrl hrl' hrz hz1 hb1 hw1
 go_enter Tryz.func20, Tryz.ntmps20
 go_wp2_with fail
 rw [← HW1.out]
 refine (culvertref26_split.calls _ line r _ HR.out).mono ?_
 rintro e w2 ⟨v0, rfl, hR, hb2⟩
 obtain ⟨A, c, rfl, hWD⟩ := RdW.of hR
 have HZ2 := Lib.hid (HZ1.out.keep hb2)
 have HB2 := Lib.hid (belowT HB1.out hb2)
 have HWD := Lib.hid hWD
 clear hR hb2 hWD HW1 HZ1 HB1
 go_wp2_with fail
 refine (rkindR_any HWD.out 0 0 0 0 0 0 (Nat.zero_le _) hrn HRZ.out).mono ?_
 rintro e w3 ⟨hb3, hK⟩
 rw [List.drop_zero] at hK
 have hz3 := HZ2.out.keep hb3
 cases hk : rkindW (lsw r) with
 | none =>
   rw [hk] at hK
   subst hK
   have HE := Lib.hid (rp_none (by rw [← HRL.out]; exact hk))
   have HB3 := Lib.hid (belowT HB2.out hb3)
   have hzl : w.heap.size < w3.heap.size := (Array.getElem?_eq_some_iff.1 hz3).1
   obtain ⟨w4, hw4⟩ : ∃ w4, w4 = w3.alloc (.cells #[.slice A r.length c, .int .i64 0, .int .u8 0, .int .u8 0, .int .u16 0, .int .u32 0, .int .u32 0, .bool false] 97) := ⟨_, rfl⟩
   have hz4 : FZ w4 w.heap.size := by rw [hw4]; exact hz3.keep ba_
   have HB4 := Lib.hid (show Below w.heap.size w w4 by rw [hw4]; exact HB3.out.alloc HB3.out.size _)
   unfold rdg
   clear hk hb3 hz3
   go_upto_region 3 with fail
   rw [← hw4]
   clear hw4
   have z0 : w4.cell? ⟨w.heap.size, 0, none⟩ = some (.int .u8 0) := cell_blk hz4 rfl
   have z1 : w4.cell? ⟨w.heap.size, 1, none⟩ = some (.int .u8 0) := cell_blk hz4 rfl
   have z2 : w4.cell? ⟨w.heap.size, 2, none⟩ = some (.int .u16 0) := cell_blk hz4 rfl
   have z3 : w4.cell? ⟨w.heap.size, 3, none⟩ = some (.int .u32 0) := cell_blk hz4 rfl
   have z4 : w4.cell? ⟨w.heap.size, 4, none⟩ = some (.int .u32 0) := cell_blk hz4 rfl
   have z5 : w4.cell? ⟨w.heap.size, 5, none⟩ = some (.slice none 0 0) := cell_blk hz4 rfl
   have zk : ∀ j, w4.frozen? ⟨w.heap.size, j, none⟩ = false := fun j => free_blk hz4
   clear hz4
   go_wp2_with fail
   refine bodyPost_ret (v := .tuple #[frm 0 0 0 0 0 none 0 0, .int .i64 40]) ?_ rfl ⟨?_, ?_⟩
   · simp [results, Tryz.results20, go_sem, z0, z1, z2, z3, z4, z5]
   · iterate 6 (with_reducible refine Below.setCell ?_ (by simp) _)
     exact HB4.out
   · rw [HE.out]
     rfl
 | some p =>
   obtain ⟨ty, ws', bad'⟩ := p
   rw [hk] at hK
   obtain ⟨a1, ha1, hws, rfl⟩ := hK
   have HB3 := Lib.hid (belowT HB2.out hb3)
   have hzl : w.heap.size < w3.heap.size := (Array.getElem?_eq_some_iff.1 hz3).1
   obtain ⟨w4, hw4⟩ : ∃ w4, w4 = w3.alloc (.cells (rcs A r.length c a1 0 ty 0 0 0 bad') 97) := ⟨_, rfl⟩
   have hb34 : Below w3.heap.size w3 w4 := by rw [hw4]; exact (Below.refl _ _).alloc (Nat.le_refl _) _
   have hx4 : RB w4 w3.heap.size A r.length c a1 0 ty 0 0 0 bad' := by rw [hw4]; exact alloc_at _ _
   have hz4 := hz3.keep hb34
   have HWD4 := Lib.hid (HWD.out.next (belowT hb3 hb34))
   have HWD3 := Lib.hid (HWD.out.next hb3)
   have HB34 := Lib.hid hb34
   have HB4 := Lib.hid (belowT HB3.out hb34)
   have HX4 := Lib.hid hx4
   have HZ4 := Lib.hid hz4
   have HKD := Lib.hid (show rkindW (spl 32 line.data.toList) = some (ty, ws', bad') by rw [← HRL.out]; exact hk)
   unfold rcs at hw4
   unfold rdg
   clear hk hb3 hz3 hb34 hz4 HWD HZ2
   go_upto_region 5 with fail
   rw [← hw4]
   have x0 : w4.cell? ⟨w3.heap.size, 0, none⟩ = some (.slice A r.length c) := cell_blk hx4 rfl
   have x1 : w4.cell? ⟨w3.heap.size, 1, none⟩ = some (.int .i64 a1) := cell_blk hx4 rfl
   have x2 : w4.cell? ⟨w3.heap.size, 2, none⟩ = some (.int .u8 0) := cell_blk hx4 rfl
   have x3 : w4.cell? ⟨w3.heap.size, 3, none⟩ = some (.int .u8 ty) := cell_blk hx4 rfl
   have x4 : w4.cell? ⟨w3.heap.size, 4, none⟩ = some (.int .u16 0) := cell_blk hx4 rfl
   have x5 : w4.cell? ⟨w3.heap.size, 5, none⟩ = some (.int .u32 0) := cell_blk hx4 rfl
   have x6 : w4.cell? ⟨w3.heap.size, 6, none⟩ = some (.int .u32 0) := cell_blk hx4 rfl
   have x7 : w4.cell? ⟨w3.heap.size, 7, none⟩ = some (.bool bad') := cell_blk hx4 rfl
   have xk : ∀ j, w4.frozen? ⟨w3.heap.size, j, none⟩ = false := fun j => free_blk hx4
   clear hw4 hx4
   go_wp2_with fail
   refine (rhdrR_any HWD4.out a1 ty bad' ha1 hrn HRZ.out).mono ?_
   rintro e w5 ⟨a2, ha2, hL, rfl, hb5⟩
   rw [hws] at hL ⊢
   obtain ⟨H, hH⟩ : ∃ H, H = (rhdrW ty ws' bad').1 := ⟨_, rfl⟩
   obtain ⟨bd, hbd⟩ : ∃ bd, bd = (rhdrW ty ws' bad').2.2 := ⟨_, rfl⟩
   have hty : H.ty = ty := by rw [hH]; rfl
   rw [← hH, ← hbd]
   obtain ⟨ver, ty', fl, st, ln⟩ := H
   obtain rfl : ty' = ty := hty
   have hz5 := HZ4.out.keep hb5
   have hx5 := HX4.out.keep hb5
   have hngs : w.heap.size ≠ w3.heap.size := by omega
   clear x0 x1 x2 x3 x4 x5 x6 x7 xk
   have x0 : w5.cell? ⟨w3.heap.size, 0, none⟩ = some (.slice A r.length c) := cell_blk hx5 rfl
   have x1 : w5.cell? ⟨w3.heap.size, 1, none⟩ = some (.int .i64 a1) := cell_blk hx5 rfl
   have x2 : w5.cell? ⟨w3.heap.size, 2, none⟩ = some (.int .u8 0) := cell_blk hx5 rfl
   have x3 : w5.cell? ⟨w3.heap.size, 3, none⟩ = some (.int .u8 ty') := cell_blk hx5 rfl
   have x4 : w5.cell? ⟨w3.heap.size, 4, none⟩ = some (.int .u16 0) := cell_blk hx5 rfl
   have x5 : w5.cell? ⟨w3.heap.size, 5, none⟩ = some (.int .u32 0) := cell_blk hx5 rfl
   have x6 : w5.cell? ⟨w3.heap.size, 6, none⟩ = some (.int .u32 0) := cell_blk hx5 rfl
   have x7 : w5.cell? ⟨w3.heap.size, 7, none⟩ = some (.bool bad') := cell_blk hx5 rfl
   have xk : ∀ j, w5.frozen? ⟨w3.heap.size, j, none⟩ = false := fun j => free_blk hx5
   obtain ⟨w6, hw6⟩ : ∃ w6, w6 = putR w5 w3.heap.size A r.length c a2 ver ty' fl st ln bd := ⟨_, rfl⟩
   have hx6 : RB w6 w3.heap.size A r.length c a2 ver ty' fl st ln bd := by rw [hw6]; exact putR_at hx5
   have hz6 : FZ w6 w.heap.size := by rw [hw6]; exact (putR_other hngs).trans hz5
   have HB6 := Lib.hid (show Below w.heap.size w w6 by rw [hw6]; exact putR_below (belowT HB4.out hb5) (by omega))
   have hwd6 : RdW w6 A c r := HWD3.out.next (by rw [hw6]; exact putR_below (belowT HB34.out hb5) (Nat.le_refl _))
   unfold putR at hw6
   unfold rdg
   have HX6 := Lib.hid hx6
   have HZ6 := Lib.hid hz6
   have HWD6 := Lib.hid hwd6
   have HL := Lib.hid hL
   have HH := Lib.hid hH
   have HBD := Lib.hid hbd
   clear hb5 hz5 hx5 hx6 hz6 hwd6 hL hH hbd HB4 HX4 HZ4 HWD4 HWD3 HB34
   go_upto_region 6 with fail
   rw [← hw6]
   clear hw6 x0 x1 x2 x3 x4 x5 x6 x7 xk
   have hx6 := HX6.out
   have hz6 := HZ6.out
   have x0 : w6.cell? ⟨w3.heap.size, 0, none⟩ = some (.slice A r.length c) := cell_blk hx6 rfl
   have x1 : w6.cell? ⟨w3.heap.size, 1, none⟩ = some (.int .i64 a2) := cell_blk hx6 rfl
   have x2 : w6.cell? ⟨w3.heap.size, 2, none⟩ = some (.int .u8 ver) := cell_blk hx6 rfl
   have x3 : w6.cell? ⟨w3.heap.size, 3, none⟩ = some (.int .u8 ty') := cell_blk hx6 rfl
   have x4 : w6.cell? ⟨w3.heap.size, 4, none⟩ = some (.int .u16 fl) := cell_blk hx6 rfl
   have x5 : w6.cell? ⟨w3.heap.size, 5, none⟩ = some (.int .u32 st) := cell_blk hx6 rfl
   have x6 : w6.cell? ⟨w3.heap.size, 6, none⟩ = some (.int .u32 ln) := cell_blk hx6 rfl
   have x7 : w6.cell? ⟨w3.heap.size, 7, none⟩ = some (.bool bd) := cell_blk hx6 rfl
   have xk : ∀ j, w6.frozen? ⟨w3.heap.size, j, none⟩ = false := fun j => free_blk hx6
   have z0 : w6.cell? ⟨w.heap.size, 0, none⟩ = some (.int .u8 0) := cell_blk hz6 rfl
   have z1 : w6.cell? ⟨w.heap.size, 1, none⟩ = some (.int .u8 0) := cell_blk hz6 rfl
   have z2 : w6.cell? ⟨w.heap.size, 2, none⟩ = some (.int .u16 0) := cell_blk hz6 rfl
   have z3 : w6.cell? ⟨w.heap.size, 3, none⟩ = some (.int .u32 0) := cell_blk hz6 rfl
   have z4 : w6.cell? ⟨w.heap.size, 4, none⟩ = some (.int .u32 0) := cell_blk hz6 rfl
   have z5 : w6.cell? ⟨w.heap.size, 5, none⟩ = some (.slice none 0 0) := cell_blk hz6 rfl
   have zk : ∀ j, w6.frozen? ⟨w.heap.size, j, none⟩ = false := fun j => free_blk hz6
   have hlen : ((lsw r).drop a2).length = r.length - a2 := by rw [List.length_drop, lsw_len]
   have HLEN := Lib.hid hlen
   clear hx6 hz6 hlen
   cases bd
   · have HP := Lib.hid (rp_ok HKD.out HBD.out.symm)
     by_cases ht : ty' = 0
     · have ht1 : (((ty' : Nat) : Int) == 0) = true := by rw [ht]; rfl
       by_cases hq : a2 + 1 = r.length
       · have hq1 : ((a2 : Int) == (r.length : Int) - 1) = true := last_t hq
         obtain ⟨x, hx⟩ : ∃ x, r[a2]? = some x := ⟨_, List.getElem?_eq_getElem (by omega)⟩
         obtain ⟨ad, rfl, hcell⟩ := HWD6.out.rd a2 x hx
         have hcap := HWD6.out.cap
         have hlt : (a2 : Int) < (r.length : Int) := lt_cast hq
         have hxs : x.size < 140737488355328 := (size_all HS.out HRL.out x (List.mem_of_getElem? hx)).1
         have hhd : ((rhdrW ty' ws' bad').2.1.headD []) = x.data.toList := by
          rw [← HL.out, lsw_drop hx]; rfl
         have hl1 : ¬ ((rhdrW ty' ws' bad').2.1.length ≠ 1) := by rw [← HL.out]; exact left_len hq HLEN.out
         have hln : ln ≤ 4294967295 := by
          have e : ln = (rhdrW ty' ws' bad').1.ln := by rw [← HH.out]
          rw [e]; exact rhdr_ln _ _ _
         have hp : rparse line.data.toList = (match read x.data.toList with
          | none => .error 41
          | some d => if d.length ≠ ln then .error 15 else .ok (⟨ver, ty', fl, st, ln⟩, d)) := by
          rw [HP.out, if_neg (by rw [ht]; simp), if_neg hl1, hhd, ← HH.out]
         have HP2 := Lib.hid hp
         have HRF := Lib.hid (read_f x hxs)
         clear hx hxs hhd hl1 hp HP
         go_wp2_with fail
         cases hrd : read x.data.toList with
         | none =>
           have hf : culvertref25_Read.f (2 * x.size + 20) x = some ([], 41) := by rw [HRF.out, hrd]; rfl
           have HE := Lib.hid (show rparse line.data.toList = .error 41 by rw [HP2.out, hrd])
           refine (culvertref25_Read.calls _ x [] 41 _ hf).mono ?_
           rintro e w7 ⟨v0, rfl, hR, hb7⟩
           have HB7 := Lib.hid (belowT HB6.out hb7)
           have hz7 := HZ6.out.keep hb7
           clear z0 z1 z2 z3 z4 z5 zk
           have z0 : w7.cell? ⟨w.heap.size, 0, none⟩ = some (.int .u8 0) := cell_blk hz7 rfl
           have z1 : w7.cell? ⟨w.heap.size, 1, none⟩ = some (.int .u8 0) := cell_blk hz7 rfl
           have z2 : w7.cell? ⟨w.heap.size, 2, none⟩ = some (.int .u16 0) := cell_blk hz7 rfl
           have z3 : w7.cell? ⟨w.heap.size, 3, none⟩ = some (.int .u32 0) := cell_blk hz7 rfl
           have z4 : w7.cell? ⟨w.heap.size, 4, none⟩ = some (.int .u32 0) := cell_blk hz7 rfl
           have z5 : w7.cell? ⟨w.heap.size, 5, none⟩ = some (.slice none 0 0) := cell_blk hz7 rfl
           have zk : ∀ j, w7.frozen? ⟨w.heap.size, j, none⟩ = false := fun j => free_blk hz7
           clear hR hb7 hz7 hf hrd
           go_wp2_with fail
           refine bodyPost_ret (v := .tuple #[frm 0 0 0 0 0 none 0 0, .int .i64 41]) ?_ rfl ⟨?_, ?_⟩
           · simp [results, Tryz.results20, go_sem, z0, z1, z2, z3, z4, z5]
           · iterate 6 (with_reducible refine Below.setCell ?_ (by simp) _)
             exact HB7.out
           · rw [HE.out]
             rfl
         | some d =>
           have hf : culvertref25_Read.f (2 * x.size + 20) x = some (d, 0) := by rw [HRF.out, hrd]; rfl
           refine (culvertref25_Read.calls _ x d 0 _ hf).mono ?_
           rintro e w7 ⟨v0, rfl, hR, hb7⟩
           have HB7 := Lib.hid (belowT HB6.out hb7)
           have hz7 := HZ6.out.keep hb7
           have hx7 := HX6.out.keep hb7
           obtain ⟨B, cB, rfl⟩ := Kd.R_slice hR
           clear z0 z1 z2 z3 z4 z5 zk x0 x1 x2 x3 x4 x5 x6 x7 xk
           have z0 : w7.cell? ⟨w.heap.size, 0, none⟩ = some (.int .u8 0) := cell_blk hz7 rfl
           have z1 : w7.cell? ⟨w.heap.size, 1, none⟩ = some (.int .u8 0) := cell_blk hz7 rfl
           have z2 : w7.cell? ⟨w.heap.size, 2, none⟩ = some (.int .u16 0) := cell_blk hz7 rfl
           have z3 : w7.cell? ⟨w.heap.size, 3, none⟩ = some (.int .u32 0) := cell_blk hz7 rfl
           have z4 : w7.cell? ⟨w.heap.size, 4, none⟩ = some (.int .u32 0) := cell_blk hz7 rfl
           have z5 : w7.cell? ⟨w.heap.size, 5, none⟩ = some (.slice none 0 0) := cell_blk hz7 rfl
           have zk : ∀ j, w7.frozen? ⟨w.heap.size, j, none⟩ = false := fun j => free_blk hz7
           have x0 : w7.cell? ⟨w3.heap.size, 0, none⟩ = some (.slice (some ad) r.length c) := cell_blk hx7 rfl
           have x1 : w7.cell? ⟨w3.heap.size, 1, none⟩ = some (.int .i64 a2) := cell_blk hx7 rfl
           have x2 : w7.cell? ⟨w3.heap.size, 2, none⟩ = some (.int .u8 ver) := cell_blk hx7 rfl
           have x3 : w7.cell? ⟨w3.heap.size, 3, none⟩ = some (.int .u8 ty') := cell_blk hx7 rfl
           have x4 : w7.cell? ⟨w3.heap.size, 4, none⟩ = some (.int .u16 fl) := cell_blk hx7 rfl
           have x5 : w7.cell? ⟨w3.heap.size, 5, none⟩ = some (.int .u32 st) := cell_blk hx7 rfl
           have x6 : w7.cell? ⟨w3.heap.size, 6, none⟩ = some (.int .u32 ln) := cell_blk hx7 rfl
           have x7 : w7.cell? ⟨w3.heap.size, 7, none⟩ = some (.bool false) := cell_blk hx7 rfl
           have xk : ∀ j, w7.frozen? ⟨w3.heap.size, j, none⟩ = false := fun j => free_blk hx7
           have HRD := Lib.hid hR
           have HRE := Lib.hid hrd
           have hbs := hb7.size
           have hzs : w.heap.size < w6.heap.size := (Array.getElem?_eq_some_iff.1 HZ6.out).1
           have hwl : wrap64 (ln : Int) = ln := wrap64_u32 hln
           have HZS := Lib.hid hzs
           clear hR hb7 hz7 hx7 hf hrd hln hzs hbs hr1 hrn hlt ha1 ha2 hcap hq1 ht1 hzl
           by_cases hdl : d.length = ln
           · have hd1 : ((d.length : Int) == (ln : Int)) = true := by rw [hdl]; exact beq_self_eq_true _
             have HE := Lib.hid (show rparse line.data.toList = .ok (⟨ver, ty', fl, st, ln⟩, d) by rw [HP2.out, HRE.out]; simp only [hdl]; simp)
             have HDL := Lib.hid hdl
             have HT := Lib.hid ht
             clear hdl
             go_wp2_with fail
             refine bodyPost_ret (v := .tuple #[.agg #[.int .u8 ver, .int .u8 0, .int .u16 fl, .int .u32 st, .int .u32 ln, .slice B d.length cB], .int .i64 0]) ?_ rfl ⟨?_, ?_⟩
             · simp [results, Tryz.results20, go_sem, z0, z1, z2, z3, z4, z5]
             · iterate 6 (with_reducible refine Below.setCell ?_ (by simp) _)
               exact HB7.out
             · rw [HE.out]
               refine ⟨B, cB, ?_, ?_⟩
               · simp only [HT.out]
                 rfl
               · refine Kd.R_lower (Kd.R_mono (Kd.R_step (Kd.R_bound HRD.out) (fun k hk _ => ?_)) (fun _ _ => trivial)) (Nat.le_of_lt HZS.out)
                 have hkn : k ≠ w.heap.size := Nat.ne_of_gt (Nat.lt_of_lt_of_le HZS.out hk.2.1)
                 rw [set_other _ hkn, set_other _ hkn, set_other _ hkn, set_other _ hkn, set_other _ hkn, set_other _ hkn]
           · have hd1 : ((d.length : Int) == (ln : Int)) = false := nat_ne hdl
             have HE := Lib.hid (show rparse line.data.toList = .error 15 by rw [HP2.out, HRE.out]; simp only [ne_eq, hdl, not_false_iff, if_true])
             clear hdl
             go_wp2_with fail
             refine bodyPost_ret (v := .tuple #[frm 0 0 0 0 0 none 0 0, .int .i64 15]) ?_ rfl ⟨?_, ?_⟩
             · simp [results, Tryz.results20, go_sem, z0, z1, z2, z3, z4, z5]
             · iterate 6 (with_reducible refine Below.setCell ?_ (by simp) _)
               exact HB7.out
             · rw [HE.out]
               rfl
       · have hq1 : ((a2 : Int) == (r.length : Int) - 1) = false := last_f hq
         have HE := Lib.hid (show rparse line.data.toList = .error 41 by
          rw [HP.out, if_neg (by rw [ht]; simp), if_pos]
          rw [← HL.out]; exact left_len' hq HLEN.out hr1 ha2)
         go_wp2_with fail
         refine bodyPost_ret (v := .tuple #[frm 0 0 0 0 0 none 0 0, .int .i64 41]) ?_ rfl ⟨?_, ?_⟩
         · simp [results, Tryz.results20, go_sem, z0, z1, z2, z3, z4, z5]
         · iterate 6 (with_reducible refine Below.setCell ?_ (by simp) _)
           exact HB6.out
         · rw [HE.out]
           rfl
     · have ht1 : (((ty' : Nat) : Int) == 0) = false := nat_ne ht
       by_cases hq : a2 = r.length
       · have hq1 : ((a2 : Int) == (r.length : Int)) = true := nat_eq' hq
         have HE := Lib.hid (show rparse line.data.toList = .ok (⟨ver, ty', fl, st, ln⟩, []) by
          rw [HP.out, if_pos ht, if_neg, HH.out]
          rw [← HL.out]; exact left_z hq HLEN.out)
         go_wp2_with fail
         refine bodyPost_ret (v := .tuple #[frm ver ty' fl st ln none 0 0, .int .i64 0]) ?_ rfl ⟨?_, ?_⟩
         · simp [results, Tryz.results20, go_sem, z0, z1, z2, z3, z4, z5]
         · iterate 6 (with_reducible refine Below.setCell ?_ (by simp) _)
           exact HB6.out
         · rw [HE.out]
           exact ⟨none, 0, rfl, Kd.R_nil _ _ _ _ _⟩
       · have hq1 : ((a2 : Int) == (r.length : Int)) = false := nat_ne hq
         have HE := Lib.hid (show rparse line.data.toList = .error 41 by
          rw [HP.out, if_pos ht, if_pos]
          rw [← HL.out]; exact left_z' hq HLEN.out ha2)
         go_wp2_with fail
         refine bodyPost_ret (v := .tuple #[frm 0 0 0 0 0 none 0 0, .int .i64 41]) ?_ rfl ⟨?_, ?_⟩
         · simp [results, Tryz.results20, go_sem, z0, z1, z2, z3, z4, z5]
         · iterate 6 (with_reducible refine Below.setCell ?_ (by simp) _)
           exact HB6.out
         · rw [HE.out]
           rfl
   · have HE := Lib.hid (rp_bad HKD.out HBD.out.symm)
     go_wp2_with fail
     refine bodyPost_ret (v := .tuple #[frm 0 0 0 0 0 none 0 0, .int .i64 41]) ?_ rfl ⟨?_, ?_⟩
     · simp [results, Tryz.results20, go_sem, z0, z1, z2, z3, z4, z5]
     · iterate 6 (with_reducible refine Below.setCell ?_ (by simp) _)
       exact HB6.out
     · rw [HE.out]
       rfl
end Go.Proofs.YtidmgckmphcegaaGreatDoor
