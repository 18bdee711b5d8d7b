import Derived.Shelf.Strings.Builder1
import Derived.Test.YtidmgckmphcegaaGreatDoorProg
import Derived.Test.YtidmgckmphcegaaGreatDoorME
import Derived.Test.YtidmgckmphcegaaGreatDoorMF
import Derived.Test.YtidmgckmphcegaaGreatDoorMB
import Derived.Test.YtidmgckmphcegaaGreatDoorMD
import Derived.Test.YtidmgckmphcegaaGreatDoorMW
/-
 strings.Builder's writing at this dump: the shelf's contracts of WriteByte and WriteString, laid by hand (a type that their text does not name any more: the panic of copyCheck is not translated here).
-/
namespace Go.Proofs.YtidmgckmphcegaaGreatDoor
open Go.Shelf Go.RowKit
def shB : Go.Shelf.Ren := ⟨fun | 166 => 73 | 167 => 74 | 240 => 110 | 276 => 127 | n => n,
 fun | 0 => 0 | 3 => 3 | 4 => 4 | 5 => 5 | 9 => 9 | 20 => 20 | 37 => 26 | 70 => 124 | 72 => 126 | 75 => 33 | 80 => 139 | 164 => 174 | n => n, fun | n => n⟩
theorem lays167 : Go.Proofs.Lays.n167 Tryz.prog shB := {
 mixed := by kernel_rfl
 f167 := Tryz.func74.trans (congrArg some (by kernel_rfl))
 f240 := Tryz.func110.trans (congrArg some (by kernel_rfl))
 f276 := Tryz.func127.trans (congrArg some (by kernel_rfl))
 t0 := Tryz.underlying0
 a0 := Tryz.isAgg0
 z0 := Tryz.sizeOf0
 v0 := Tryz.zeroValue0
 t4 := Tryz.underlying4
 a4 := Tryz.isAgg4
 z4 := Tryz.sizeOf4
 v4 := Tryz.zeroValue4
 t5 := Tryz.underlying5
 a5 := Tryz.isAgg5
 z5 := Tryz.sizeOf5
 v5 := Tryz.zeroValue5
 t9 := Tryz.underlying9
 a9 := Tryz.isAgg9
 z9 := Tryz.sizeOf9
 v9 := Tryz.zeroValue9
 t20 := Tryz.underlying20
 a20 := Tryz.isAgg20
 z20 := Tryz.sizeOf20
 v20 := Tryz.zeroValue20
 t37 := Tryz.underlying26
 a37 := Tryz.isAgg26
 z37 := Tryz.sizeOf26
 v37 := Tryz.zeroValue26
 t70 := Tryz.underlying124
 a70 := Tryz.isAgg124
 z70 := Tryz.sizeOf124
 v70 := Tryz.zeroValue124
 t72 := Tryz.underlying126
 a72 := Tryz.isAgg126
 z72 := Tryz.sizeOf126
 v72 := Tryz.zeroValue126
 t75 := Tryz.underlying33
 a75 := Tryz.isAgg33
 z75 := Tryz.sizeOf33
 v75 := Tryz.zeroValue33
 t164 := Tryz.underlying174
 a164 := Tryz.isAgg174
 z164 := Tryz.sizeOf174
 v164 := Tryz.zeroValue174 }
theorem lays166 : Go.Proofs.Lays.n166 Tryz.prog shB := { lays167 with
 f166 := Tryz.func73.trans (congrArg some (by kernel_rfl))
 t3 := Tryz.underlying3
 a3 := Tryz.isAgg3
 z3 := Tryz.sizeOf3
 v3 := Tryz.zeroValue3 }
theorem shB_extra : Builder.Extra Tryz.prog shB := {
 sizeBuilder := by kernel_rfl
 liesBuilder := by kernel_rfl
 t5 := Tryz.underlying5
 a5 := Tryz.isAgg5
 z5 := Tryz.sizeOf5
 v5 := Tryz.zeroValue5
 infoByte := by kernel_rfl
 cellsByte := by kernel_rfl
 sizeByte := by kernel_rfl
 neB5 := by decide }
def Bld (B b : Nat) (l : List UInt8) (w : World) : Prop := Lib.IsBuilder 126 5 B b (Lib.byteCells l) w
theorem byteCells_app (a b : List UInt8) : Lib.byteCells (a ++ b) = Lib.byteCells a ++ Lib.byteCells b := by simp [Lib.byteCells]
theorem byteCells_len (a : List UInt8) : (Lib.byteCells a).length = a.length := by simp [Lib.byteCells]
theorem bld_byte {B b : Nat} {l : List UInt8} (c : UInt8) {w : World} (h : Bld B b l w) (hl : l.length + 1 ≤ 140737488355328) (hB : B ≤ w.heap.size) {x : Int} (hx : x = c.toNat) :
    Calls Tryz.prog 74 #[.pointer (some ⟨b, 0, none⟩), .int .u8 x] w fun e w' => e = .returned .nilIface ∧ Bld B b (l ++ [c]) w' ∧ Below B w w' := by
 subst hx
 refine (Any.Builder_WriteByte lays167 shB_extra B b (Lib.byteCells l) c.toNat w h (by rw [byteCells_len]; exact hl) hB).mono ?_
 rintro e w' ⟨he, h1, h2⟩
 refine ⟨he, .inr ?_, h2⟩
 have e2 : Lib.byteCells (l ++ [c]) = Lib.byteCells l ++ [.int .u8 c.toNat] := by rw [byteCells_app]; rfl
 rw [e2]
 exact h1
theorem bld_new (w : World) : Bld w.heap.size w.heap.size [] (w.alloc (.cells #[.pointer none, .slice none 0 0] 126)) :=
 .inl ⟨Nat.le_refl _, .slice none 0 0, by simp [World.alloc, -World.alloc_eq], World.ownsRow_nil _ _ _ _, by simp [Value.ownBlock]⟩
end Go.Proofs.YtidmgckmphcegaaGreatDoor
/-
 tap.joined, script.plain, script.Told.
-/
namespace Go.Proofs.YtidmgckmphcegaaGreatDoor
open Go.RowKit
set_option linter.unusedVariables false
set_option linter.unusedSimpArgs false
theorem joined_any (bk c : Nat) (xs : List ByteArray) (w : World) (hcells : ∀ (j : Nat) x, xs[j]? = some x → w.cell? ⟨bk, j, none⟩ = some (.string x)) (hbk : bk < w.heap.size) (hN : xs.length ≤ 1000) (hcap : xs.length ≤ c)
    (hlen : (Lib.join (xs.map (·.data.toList)) [32]).length ≤ 140737488355328) :
    Calls Tryz.prog 49 #[.slice (some ⟨bk, 0, none⟩) xs.length c] w fun e w' => e = .returned (.string ⟨(Lib.join (xs.map (·.data.toList)) [32]).toArray⟩) ∧ Below w.heap.size w w' := by
 have hj := Tryz.strings_Join bk 0 c xs ⟨#[32]⟩ w (fun j x h => by rw [Nat.zero_add]; exact hcells j x h) hbk (by omega) hcap hlen
 clear hcells
 go_enter Tryz.func49, Tryz.ntmps49
 go_wp2_with fail
 refine hj.mono ?_
 rintro e w1 ⟨rfl, hb⟩
 go_wp2_with fail
 go_ret
 exact ⟨rfl, hb⟩
theorem plain_any (x : Int) (h0 : 0 ≤ x) (h1 : x ≤ 255) (w : World) :
    Calls Tryz.prog 89 #[.int .u8 x] w fun e w' => e = .returned (.bool (plainN x.toNat)) ∧ w' = w := by
 have e : plainN x.toNat = (decide (32 < x) && decide (x ≤ 126) && (x != 37)) := by
  unfold plainN
  rw [Bool.eq_iff_iff]
  simp only [Bool.and_eq_true, decide_eq_true_eq, bne_iff_ne, ne_eq]
  omega
 have E := Lib.hid e
 clear e
 go_enter Tryz.func89, Tryz.ntmps89
 go_wp2_with fail
 all_goals (go_ret; refine ⟨?_, rfl⟩; rw [E.out]; clear E)
 all_goals (first | rfl | (congr 2; simp; omega))
abbrev hexS : ByteArray := ⟨#[48, 49, 50, 51, 52, 53, 54, 55, 56, 57, 97, 98, 99, 100, 101, 102]⟩
theorem ba_ls {a b : ByteArray} (h : a.data.toList = b.data.toList) : a = b := by
 cases a; cases b; simp only [ByteArray.mk.injEq]; exact Array.toList_inj.1 h
theorem hexC_at : ∀ k : Fin 16, hexC k = hexS[k.1]'(show k.1 < 16 from k.2) := by decide +kernel
theorem hexC_at' (n m : Nat) (hn : n < 16) (hm : m < hexS.size) (e : m = n) : hexC n = hexS[m] := by subst e; exact hexC_at ⟨m, hn⟩
theorem take_snocI {α : Type} (xs : List α) (k : Nat) (h : k < xs.length) : xs.take (k + 1) = xs.take k ++ [xs[k]] := by
 rw [List.take_succ_eq_append_getElem h]
structure Rd (w : World) (A : Option Addr) (n : Nat) (xs : List Int) : Prop where
 len : xs.length = n
 byt : ∀ x ∈ xs, 0 ≤ x ∧ x ≤ 255
 rd : 0 < n → ∃ ad, A = some ad ∧ ∀ j, j < n → w.cell? (ad.add j) = some (.int .u8 (xs.getD j 0))
theorem Rd.next {w w' : World} {A : Option Addr} {n : Nat} {xs : List Int} (h : Rd w A n xs) (hb : Below w.heap.size w w') : Rd w' A n xs :=
 ⟨h.len, h.byt, fun hn => by obtain ⟨ad, e, hr⟩ := h.rd hn; exact ⟨ad, e, fun j hj => keepA hb (hr j hj)⟩⟩
theorem Bs.toRd {w : World} {A : Option Addr} {n c : Nat} {xs : List Int} (h : Bs w A n c xs) : Rd w A n xs :=
 ⟨h.len, h.byt, fun hn => by
  obtain ⟨b, o, e, hr⟩ := h.rd hn
  exact ⟨_, e, fun j hj => by rw [Addr.add_lit]; exact hr j hj⟩⟩
set_option maxRecDepth 100000 in
set_option maxHeartbeats 1000000 in
theorem told_any {A : Option Addr} {n c : Nat} {xs : List Int} {w : World} (hB : Rd w A n xs) (hn : n ≤ 4294967295) :
    Calls Tryz.prog 50 #[.slice A n c] w fun e w' => e = .returned (.string ⟨(told xs).toArray⟩) ∧ Below w.heap.size w w' := by
 have hl := hB.len
 have hx := hB.byt
 by_cases h0 : n = 0
 · subst h0
   obtain rfl : xs = [] := List.eq_nil_of_length_eq_zero hl
   clear hB hl hx
   go_enter Tryz.func50, Tryz.ntmps50
   go_wp2_with fail
   go_ret
   exact ⟨rfl, Below.refl _ _⟩
 · obtain ⟨ad, rfl, hr⟩ := hB.rd (by omega)
   have HB := Lib.hid hB
   have HRD := Lib.hid hr
   have HX := Lib.hid hx
   have HL := Lib.hid hl
   have hne : xs ≠ [] := by intro e; subst e; simp at hl; omega
   have HNE := Lib.hid hne
   have hnz : ((n : Int) == 0) = false := by simp; omega
   clear hB hl hx hr hne
   go_enter Tryz.func50, Tryz.ntmps50
   go_wp2_with fail
   go_loopw [11] (fun i wr => ∃ k : Nat, k ≤ n ∧ i = .int .i64 k ∧ Hid (Bld w.heap.size w.heap.size (toldL (xs.take k)) wr ∧ Below w.heap.size w wr)) (fun i _ => n - (intOf i).toNat)
   case atStart => exact ⟨0, by omega, rfl, by rw [List.take_zero]; exact bld_new w, (Below.refl _ _).alloc (Nat.le_refl _) _⟩
   case round =>
    obtain ⟨k, hk, rfl, HR⟩ := hrel
    by_cases hlt : k < n
    · have hlt' : (k : Int) < n := by omega
      obtain ⟨x, hxk⟩ : ∃ x, x = xs.getD k 0 := ⟨_, rfl⟩
      have hxb := byte_at HX.out hxk
      have hx0 := hxb.1
      have hx1 := hxb.2
      have hc : wr.cell? (ad.add k) = some (.int .u8 x) := by rw [hxk]; exact keepA HR.out.2 (HRD.out k hlt)
      have hsn : toldL (xs.take (k + 1)) = toldL (xs.take k) ++ told1 x := by
       have hkl : k < xs.length := by rw [HL.out]; exact hlt
       rw [take_snocI xs k hkl, toldL_snoc, hxk, List.getD_eq_getElem?_getD, List.getElem?_eq_getElem hkl]; rfl
      have HS := Lib.hid hsn
      have hlen : (toldL (xs.take k)).length ≤ 3 * 4294967295 := by
       have h1 := (toldL_len (xs.take k)).1
       have h2 : (xs.take k).length ≤ n := by rw [List.length_take, HL.out]; omega
       omega
      have HLN := Lib.hid hlen
      have hwz : w.heap.size ≤ wr.heap.size := HR.out.2.size
      have HXK := Lib.hid hxk
      clear hxb hsn hlen hxk
      go_wp2_with fail
      refine (plain_any x hx0 hx1 wr).mono ?_
      rintro e w1 ⟨rfl, rfl⟩
      by_cases hp : plainN x.toNat = true
      · have ht : told1 x = [UInt8.ofNat x.toNat] := by unfold told1; rw [if_pos hp]
        have HT := Lib.hid ht
        clear ht
        go_wp2_with fail
        refine (bld_byte (UInt8.ofNat x.toNat) HR.out.1 (by have := HLN.out; omega) hwz (by simp; omega)).mono ?_
        rintro e w2 ⟨rfl, hb2, hbl2⟩
        have HB2 := Lib.hid hb2
        have HL2 := Lib.hid (HR.out.2.trans hbl2)
        clear hb2 hbl2
        go_wp2_with fail
        go_roundw
        case rel => exact ⟨k + 1, by omega, by go_num, by rw [HS.out, HT.out]; exact HB2.out, HL2.out⟩
        case measure => simp [intOf]; omega
      · have hp' : plainN x.toNat = false := by simpa using hp
        have ht : told1 x = [37, hexC (x.toNat / 16), hexC (x.toNat % 16)] := by unfold told1; rw [if_neg hp]
        have HT := Lib.hid ht
        clear ht hp
        go_wp2_with fail
        refine (bld_byte 37 HR.out.1 (by have := HLN.out; omega) hwz rfl).mono ?_
        rintro e w2 ⟨rfl, hb2, hbl2⟩
        have HB2 := Lib.hid hb2
        have HL2 := Lib.hid (HR.out.2.trans hbl2)
        have hwz2 : w.heap.size ≤ w2.heap.size := HL2.out.size
        clear hb2 hbl2
        have hsz : hexS.size = 16 := rfl
        have hd1 : (x / 16).toNat < hexS.size := by omega
        go_wp2_with fail
        refine (bld_byte (hexS[(x / 16).toNat]'hd1) HB2.out (by rw [List.length_append]; have := HLN.out; simp; omega) hwz2 rfl).mono ?_
        rintro e w3 ⟨rfl, hb3, hbl3⟩
        have HB3 := Lib.hid hb3
        have HL3 := Lib.hid (HL2.out.trans hbl3)
        have hwz3 : w.heap.size ≤ w3.heap.size := HL3.out.size
        clear hb3 hbl3
        have hd2 : (x % 16).toNat < hexS.size := by omega
        go_wp2_with fail
        refine (bld_byte (hexS[(x % 16).toNat]'hd2) HB3.out (by rw [List.length_append, List.length_append]; have := HLN.out; simp; omega) hwz3 rfl).mono ?_
        rintro e w4 ⟨rfl, hb4, hbl4⟩
        have HB4 := Lib.hid hb4
        have HL4 := Lib.hid (HL3.out.trans hbl4)
        clear hb4 hbl4
        go_wp2_with fail
        go_roundw
        case rel =>
         refine ⟨k + 1, by omega, by go_num, ?_, HL4.out⟩
         rw [HS.out, HT.out, hexC_at' _ _ (by omega) hd1 (by omega), hexC_at' _ _ (by omega) hd2 (by omega)]
         have := HB4.out
         rwa [List.append_assoc, List.append_assoc] at this
        case measure => simp [intOf]; omega
    · have he : k = n := by omega
      subst he
      have hd : decide ((k : Int) < (k : Int)) = false := by simp
      have hxe : toldL (xs.take k) = told xs := by
       unfold told
       rw [if_neg HNE.out, List.take_of_length_le (by rw [HL.out]; omega)]
      have HE := Lib.hid hxe
      have hwz : w.heap.size ≤ wr.heap.size := HR.out.2.size
      clear hxe
      go_wp2_with fail
      refine (Tryz.Builder_String_any w.heap.size w.heap.size (toldL (xs.take k)) wr HR.out.1 hwz).mono ?_
      rintro e w2 ⟨rfl, hbl2⟩
      go_wp2_with fail
      go_ret
      exact ⟨by rw [HE.out]; rfl, HR.out.2.trans hbl2⟩
end Go.Proofs.YtidmgckmphcegaaGreatDoor
/-
 tap.Line.
-/
namespace Go.Proofs.YtidmgckmphcegaaGreatDoor
open Go.RowKit Go.Proofs.YtidmgckmphcegaaGreatDoorW.PrintWords Go.Proofs.YtidmgckmphcegaaGreatDoorW.PrintLast
set_option linter.unusedVariables false
set_option linter.unusedSimpArgs false
def FB (g : Nat) (ver ty fl st ln : Int) (A : Option Addr) (n c : Nat) (w : World) : Prop :=
 w.cell? ⟨g, 0, none⟩ = some (.int .u8 ver) ∧ w.cell? ⟨g, 1, none⟩ = some (.int .u8 ty) ∧ w.cell? ⟨g, 2, none⟩ = some (.int .u16 fl) ∧ w.cell? ⟨g, 3, none⟩ = some (.int .u32 st) ∧ w.cell? ⟨g, 4, none⟩ = some (.int .u32 ln) ∧ w.cell? ⟨g, 5, none⟩ = some (.slice A n c)
theorem FB.new (ver ty fl st ln : Int) (A : Option Addr) (n c : Nat) (w : World) : FB w.heap.size ver ty fl st ln A n c (w.alloc (.cells #[.int .u8 ver, .int .u8 ty, .int .u16 fl, .int .u32 st, .int .u32 ln, .slice A n c] 28)) :=
 have hx := alloc_at w (.cells #[.int .u8 ver, .int .u8 ty, .int .u16 fl, .int .u32 st, .int .u32 ln, .slice A n c] 28)
 ⟨cell_blk hx rfl, cell_blk hx rfl, cell_blk hx rfl, cell_blk hx rfl, cell_blk hx rfl, cell_blk hx rfl⟩
theorem FB.next {g : Nat} {ver ty fl st ln : Int} {A : Option Addr} {n c : Nat} {w w' : World} (h : FB g ver ty fl st ln A n c w) (hb : Below w.heap.size w w') : FB g ver ty fl st ln A n c w' :=
 ⟨keepA hb h.1, keepA hb h.2.1, keepA hb h.2.2.1, keepA hb h.2.2.2.1, keepA hb h.2.2.2.2.1, keepA hb h.2.2.2.2.2⟩
theorem cells_two (w : World) (a b : ByteArray) : ∀ (j : Nat) x, [a, b][j]? = some x → (w.alloc (.cells #[.string a, .string b] 9)).cell? ⟨w.heap.size, j, none⟩ = some (.string x) := by
 intro j x h
 have hx := alloc_at w (.cells #[.string a, .string b] 9)
 rcases j with _ | _ | j
 · simp at h; subst h; exact cell_blk hx rfl
 · simp at h; subst h; exact cell_blk hx rfl
 · simp at h
theorem joined2 (w : World) (a b : ByteArray) (hlen : (Lib.join (([a, b] : List ByteArray).map (·.data.toList)) [32]).length ≤ 140737488355328) :
    Calls Tryz.prog 49 #[.slice (some ⟨w.heap.size, 0, none⟩) 2 2] (w.alloc (.cells #[.string a, .string b] 9)) fun e w' => e = .returned (.string ⟨(Lib.join (([a, b] : List ByteArray).map (·.data.toList)) [32]).toArray⟩) ∧ Below (w.alloc (.cells #[.string a, .string b] 9)).heap.size (w.alloc (.cells #[.string a, .string b] 9)) w' :=
 joined_any w.heap.size 2 [a, b] _ (cells_two w a b) (by simp) (by simp) (by simp) hlen
theorem lineB_len (h : Hd) (xs : List Int) {n : Nat} (ht : (textB h.ver h.ty h.fl h.st h.ln).length ≤ 420) (hd : (told xs).length ≤ 3 * n + 1) (hn : n ≤ 4294967295) : (lineB h xs).length ≤ 140737488355328 := by
 unfold lineB textH
 split
 · rw [List.length_append, List.length_cons]; omega
 · omega
set_option maxRecDepth 100000 in
set_option maxHeartbeats 1000000 in
theorem line_any {sa : Nat → Addr} (ver ty fl st ln : Nat) (A : Option Addr) (n c : Nat) (xs : List Int) (w : World) (hG : Good w sa) (hP : Pow10 w) (hW : Words w) (hB : Rd w A n xs) (hver : ver ≤ 255) (hty : ty ≤ 255) (hfl : fl ≤ 65535) (hst : st ≤ 4294967295) (hln : ln ≤ 4294967295) :
    Calls Tryz.prog 17 #[frm ver ty fl st ln A n c] w fun e w' => e = .returned (.tuple (if (n : Int) = szF ty ln then #[.string ⟨(lineB ⟨ver, ty, fl, st, ln⟩ xs).toArray⟩, .nilIface] else #[.string ⟨#[]⟩, sv (sa 15)])) ∧ Below w.heap.size w w' := by
 obtain ⟨w1, hw1⟩ : ∃ w1, w1 = w.alloc (.cells #[.int .u8 ver, .int .u8 ty, .int .u16 fl, .int .u32 st, .int .u32 ln, .slice A n c] 28) := ⟨_, rfl⟩
 have hx : FB w.heap.size ver ty fl st ln A n c w1 := by rw [hw1]; exact FB.new ..
 have hB1 : Below w.heap.size w w1 := by rw [hw1]; exact (Below.refl _ _).alloc (Nat.le_refl _) _
 have HE := Lib.hid hw1
 have HX := Lib.hid hx
 have HB1 := Lib.hid hB1
 have HBs := Lib.hid hB
 have HG := Lib.hid hG
 have HP := Lib.hid hP
 have HW := Lib.hid hW
 clear hw1 hx hB1 hB hG hP hW
 go_enter Tryz.func17, Tryz.ntmps17
 go_wp2_with fail
 rw [← HE.out]
 clear HE
 refine start_ (n := 7) (S := fun w' => w'.cell? ⟨w.heap.size, 0, none⟩ = some (.int .u8 ver) ∧ w'.cell? ⟨w.heap.size, 1, none⟩ = some (.int .u8 ty) ∧ w'.cell? ⟨w.heap.size, 2, none⟩ = some (.int .u16 fl) ∧ w'.cell? ⟨w.heap.size, 3, none⟩ = some (.int .u32 st) ∧ w'.cell? ⟨w.heap.size, 4, none⟩ = some (.int .u32 ln) ∧ w'.cell? ⟨w.heap.size, 5, none⟩ = some (.slice A n c) ∧ Hid (Below w1.heap.size w1 w')) (ds := []) (bM 7 0) (by kernel_rfl) rfl rfl (⟨HX.out.1, HX.out.2.1, HX.out.2.2.1, HX.out.2.2.2.1, HX.out.2.2.2.2.1, HX.out.2.2.2.2.2, Lib.hid (Below.refl _ _).drew⟩) (fun hHeld => ?_)
 refine pu_ 0 4 ?_ (bM 7 1) rfl rfl (by kernel_rfl) (.inl ⟨by rfl, ?_⟩) ?_ ?_ ?_; rotate_left
 · intro w'; go_simp; with_reducible rfl
 rotate_left
 · simp only [pA_, i64_w]; rfl
 refine pu_ 3 7 ?_ (bM 7 9) rfl rfl (by kernel_rfl) (.inl ⟨by rfl, ?_⟩) ?_ ?_ ?_; rotate_left
 · intro w'; go_simp; with_reducible rfl
 rotate_left
 · simp only [pA_, i64_w]; rfl
 refine tk_ 1 5 ?_ (bM 7 11) rfl rfl (by kernel_rfl) (.inl ⟨by rfl, ?_⟩) hHeld ?_ ?_ ?_; rotate_left
 · rintro w' ⟨s0, s1, s2, s3, s4, s5, s6⟩; go_simp; with_reducible rfl
 rotate_left
 · simp only [pA_, i64_w]; rfl
 refine pu_ 2 6 ?_ (bM 7 15) rfl rfl (by kernel_rfl) (.inl ⟨by rfl, ?_⟩) ?_ ?_ ?_; rotate_left
 · intro w'; go_simp; with_reducible rfl
 rotate_left
 · simp only [pA_, i64_w]; rfl
 refine tk_ 4 8 ?_ (bM 7 31) rfl rfl (by kernel_rfl) (.inl ⟨by rfl, ?_⟩) hHeld ?_ ?_ ?_; rotate_left
 · rintro w' ⟨s0, s1, s2, s3, s4, s5, s6⟩; go_simp; with_reducible rfl
 rotate_left
 · simp only [pA_, i64_w]; rfl
 refine one_ (i := 5) (N := some 9) (bM 7 63) rfl rfl (by kernel_rfl) (by decide) (fun K hK => ?_)
 refine goes_ Tryz.func47 (by kernel_rfl) rfl #[hdr ver ty fl st ln] (by rfl) rfl rfl (by simp only [List.map_toArray, List.map_cons, List.map_nil]; rfl) ?_
 with_reducible refine (size_any ver ty fl st ln _ (by omega) (by omega)).mono ?_
 rintro e w2 ⟨rfl, hb2⟩
 refine ⟨_, rfl, ?_⟩
 have HB2 := Lib.hid hb2
 clear hb2
 refine hK.out _ _ (⟨keepA HB2.out hHeld.1, keepA HB2.out hHeld.2.1, keepA HB2.out hHeld.2.2.1, keepA HB2.out hHeld.2.2.2.1, keepA HB2.out hHeld.2.2.2.2.1, keepA HB2.out hHeld.2.2.2.2.2.1, Lib.hid (belowT hHeld.2.2.2.2.2.2.out HB2.out)⟩) (fun hHeld => ?_)
 clear hK K
 refine norm_ (a' := ?_) ?_ ?_
 rotate_left
 · show Act.put _ (some 9) _ = _
   simp only [pA_, i64_w]
   rfl
 refine pu_ 6 10 ?_ (bM 7 127) rfl rfl (by kernel_rfl) (.inl ⟨by rfl, ?_⟩) ?_ ?_ ?_; rotate_left
 · intro w'; go_simp; with_reducible rfl
 rotate_left
 · simp only [pA_, i64_w]; rfl
 refine done_ (by kernel_rfl) ?_
 have HB12 := Lib.hid hHeld.2.2.2.2.2.2.out
 clear hHeld HB2
 have HX2 := Lib.hid (HX.out.next HB12.out)
 have HB2 := Lib.hid (belowT HB1.out HB12.out)
 have HG2 := Lib.hid (HG.out.below HB2.out)
 have HBs2 := Lib.hid (HBs.out.next HB2.out)
 have HP2 := Lib.hid (HP.out.below HB2.out)
 have HW2 := Lib.hid (HW.out.below HB2.out)
 clear HX HB1 HB12 HG HBs HP HW
 by_cases hne : (n : Int) = szF ty ln
 · have hd : ((n : Int) != szF ty ln) = false := by simp [hne]
   have e0 := HX2.out.1
   have e1 := HX2.out.2.1
   have e2 := HX2.out.2.2.1
   have e3 := HX2.out.2.2.2.1
   have e4 := HX2.out.2.2.2.2.1
   have hnl : n ≤ 4294967295 := by unfold szF at hne; split at hne <;> omega
   by_cases ht : ty = 0
   · have HL : Hid (lineB ⟨ver, ty, fl, st, ln⟩ xs = Lib.join (([⟨(textB ver ty fl st ln).toArray⟩, ⟨(told xs).toArray⟩] : List ByteArray).map (·.data.toList)) [32]) := by
       show lineB _ _ = _
       unfold lineB
       rw [if_pos ht]
       simp only [List.map_cons, List.map_nil, join_two, join_one]
       rfl
     have ht' : ((ty : Int) != 0) = false := by simp; omega
     have htl : (textB ver ty fl st ln).length ≤ 420 := text_len ver ty fl st ln hver hty hfl hst hln
     have hdl := told_len xs
     rw [HBs2.out.len] at hdl
     have HTL := Lib.hid htl
     have HDL := Lib.hid hdl
     have HNE := Lib.hid hne
     have HTY := Lib.hid ht
     clear hne htl hdl ht
     go_wp2_with fail
     refine start_ (n := 10) (S := fun w' => w'.cell? ⟨w.heap.size, 0, none⟩ = some (.int .u8 ver) ∧ w'.cell? ⟨w.heap.size, 1, none⟩ = some (.int .u8 ty) ∧ w'.cell? ⟨w.heap.size, 2, none⟩ = some (.int .u16 fl) ∧ w'.cell? ⟨w.heap.size, 3, none⟩ = some (.int .u32 st) ∧ w'.cell? ⟨w.heap.size, 4, none⟩ = some (.int .u32 ln) ∧ w'.cell? ⟨w.heap.size, 5, none⟩ = some (.slice A n c) ∧ Hid (Below w2.heap.size w2 w')) (ds := []) (bM 10 0) (by kernel_rfl) rfl rfl (⟨HX2.out.1, HX2.out.2.1, HX2.out.2.2.1, HX2.out.2.2.2.1, HX2.out.2.2.2.2.1, HX2.out.2.2.2.2.2, Lib.hid (Below.refl _ _).drew⟩) (fun hHeld => ?_)
     refine pu_ 0 19 ?_ (bM 10 1) rfl rfl (by kernel_rfl) (.inl ⟨by rfl, ?_⟩) ?_ ?_ ?_; rotate_left
     · intro w'; go_simp; with_reducible rfl
     rotate_left
     · simp only [pA_, i64_w]; rfl
     refine pu_ 3 22 ?_ (bM 10 9) rfl rfl (by kernel_rfl) (.inl ⟨by rfl, ?_⟩) ?_ ?_ ?_; rotate_left
     · intro w'; go_simp; with_reducible rfl
     rotate_left
     · simp only [pA_, i64_w]; rfl
     refine tk_ 1 20 ?_ (bM 10 11) rfl rfl (by kernel_rfl) (.inl ⟨by rfl, ?_⟩) hHeld ?_ ?_ ?_; rotate_left
     · rintro w' ⟨s0, s1, s2, s3, s4, s5, s6⟩; go_simp; with_reducible rfl
     rotate_left
     · simp only [pA_, i64_w]; rfl
     refine tk_ 4 23 ?_ (bM 10 27) rfl rfl (by kernel_rfl) (.inl ⟨by rfl, ?_⟩) hHeld ?_ ?_ ?_; rotate_left
     · rintro w' ⟨s0, s1, s2, s3, s4, s5, s6⟩; go_simp; with_reducible rfl
     rotate_left
     · simp only [pA_, i64_w]; rfl
     refine one_ (i := 2) (N := some 21) (bM 10 31) rfl rfl (by kernel_rfl) (by decide) (fun K hK => ?_)
     refine goes_ Tryz.func48 (by kernel_rfl) rfl #[hdr ver ty fl st ln] (by rfl) rfl rfl (by simp only [List.map_toArray, List.map_cons, List.map_nil]; rfl) ?_
     with_reducible refine (text_any ver ty fl st ln _ hver hty hfl hst hln (HP2.out.below hHeld.2.2.2.2.2.2.out) (HW2.out.below hHeld.2.2.2.2.2.2.out)).mono ?_
     rintro e w3 ⟨rfl, hb3⟩
     refine ⟨_, rfl, ?_⟩
     have HB3 := Lib.hid hb3
     clear hb3
     refine hK.out _ _ (⟨keepA HB3.out hHeld.1, keepA HB3.out hHeld.2.1, keepA HB3.out hHeld.2.2.1, keepA HB3.out hHeld.2.2.2.1, keepA HB3.out hHeld.2.2.2.2.1, keepA HB3.out hHeld.2.2.2.2.2.1, Lib.hid (belowT hHeld.2.2.2.2.2.2.out HB3.out)⟩) (fun hHeld => ?_)
     clear hK K
     refine norm_ (a' := ?_) ?_ ?_
     rotate_left
     · show Act.put _ (some 21) _ = _
       simp only [pA_, i64_w]
       rfl
     refine one_ (i := 5) (N := some 24) (bM 10 63) rfl rfl (by kernel_rfl) (by decide) (fun K hK => ?_)
     refine goes_ Tryz.func50 (by kernel_rfl) rfl #[.slice A n c] (by rfl) rfl rfl (by simp only [List.map_toArray, List.map_cons, List.map_nil]; rfl) ?_
     with_reducible refine (told_any (HBs2.out.next hHeld.2.2.2.2.2.2.out) hnl).mono ?_
     rintro e w4 ⟨rfl, hb4⟩
     refine ⟨_, rfl, ?_⟩
     have HB4 := Lib.hid hb4
     clear hb4
     refine hK.out _ _ (⟨keepA HB4.out hHeld.1, keepA HB4.out hHeld.2.1, keepA HB4.out hHeld.2.2.1, keepA HB4.out hHeld.2.2.2.1, keepA HB4.out hHeld.2.2.2.2.1, keepA HB4.out hHeld.2.2.2.2.2.1, Lib.hid (belowT hHeld.2.2.2.2.2.2.out HB4.out)⟩) (fun hHeld => ?_)
     clear hK K
     refine norm_ (a' := ?_) ?_ ?_
     rotate_left
     · show Act.put _ (some 24) _ = _
       simp only [pA_, i64_w]
       rfl
     refine one_ (i := 6) (N := some 25) (bM 10 127) rfl rfl (by kernel_rfl) (by decide) (fun K hK => ?_)
     refine value_ (w1 := ?_) (v := ?_) (by rfl) rfl ?_ ?_
     rotate_left 2
     · go_simp
       constructor
       · rfl
       · rfl
     refine hK.out _ _ (⟨keepA ba_ hHeld.1, keepA ba_ hHeld.2.1, keepA ba_ hHeld.2.2.1, keepA ba_ hHeld.2.2.2.1, keepA ba_ hHeld.2.2.2.2.1, keepA ba_ hHeld.2.2.2.2.2.1, Lib.hid (belowT hHeld.2.2.2.2.2.2.out ba_)⟩) (fun hHeld => ?_)
     clear hK K
     refine norm_ (a' := ?_) ?_ ?_
     rotate_left
     · show Act.put _ (some 25) _ = _
       simp only [pA_, i64_w]
       rfl
     refine one_ (i := 7) (N := some 26) (bM 10 255) rfl rfl (by kernel_rfl) (by decide) (fun K hK => ?_)
     refine goes_ Tryz.func49 (by kernel_rfl) rfl #[.slice (some ⟨w4.heap.size, 0, none⟩) 2 2] (by rfl) rfl rfl (by simp only [List.map_toArray, List.map_cons, List.map_nil]; rfl) ?_
     with_reducible refine (joined2 w4 ⟨(textB ver ty fl st ln).toArray⟩ ⟨(told xs).toArray⟩ (by rw [← HL.out]; exact lineB_len _ _ HTL.out HDL.out (by omega))).mono ?_
     rintro e w5 ⟨rfl, hb5⟩
     refine ⟨_, rfl, ?_⟩
     have HB5 := Lib.hid hb5
     clear hb5
     refine hK.out _ _ (⟨keepA HB5.out hHeld.1, keepA HB5.out hHeld.2.1, keepA HB5.out hHeld.2.2.1, keepA HB5.out hHeld.2.2.2.1, keepA HB5.out hHeld.2.2.2.2.1, keepA HB5.out hHeld.2.2.2.2.2.1, Lib.hid (belowT hHeld.2.2.2.2.2.2.out HB5.out)⟩) (fun hHeld => ?_)
     clear hK K
     refine norm_ (a' := ?_) ?_ ?_
     rotate_left
     · show Act.put _ (some 26) _ = _
       simp only [pA_, i64_w]
       rfl
     refine pu_ 8 2 ?_ (bM 10 511) rfl rfl (by kernel_rfl) (.inl ⟨by rfl, ?_⟩) ?_ ?_ ?_; rotate_left
     · intro w'; go_simp; with_reducible rfl
     rotate_left
     · simp only [pA_, i64_w]; rfl
     refine pu_ 9 3 ?_ (bM 10 1023) rfl rfl (by kernel_rfl) (.inl ⟨by rfl, ?_⟩) ?_ ?_ ?_; rotate_left
     · intro w'; go_simp; with_reducible rfl
     rotate_left
     · simp only [pA_, i64_w]; rfl
     refine done_ (by kernel_rfl) ?_
     have HB25 := Lib.hid hHeld.2.2.2.2.2.2.out
     clear hHeld
     go_wp2_with fail
     go_ret2
     exact ⟨by (try rw [if_pos HNE.out]); rw [HL.out]; rfl, belowT HB2.out HB25.out⟩
   · have HL : Hid (lineB ⟨ver, ty, fl, st, ln⟩ xs = textB ver ty fl st ln) := by
       show lineB _ _ = _
       unfold lineB
       rw [if_neg ht]; rfl
     have ht' : ((ty : Int) != 0) = true := by simp; omega
     have HNE := Lib.hid hne
     clear hne
     go_wp2_with fail
     refine (text_any ver ty fl st ln _ hver hty hfl hst hln HP2.out HW2.out).mono ?_
     rintro e w3 ⟨rfl, hb3⟩
     go_wp2_with fail
     go_ret2
     exact ⟨by (try rw [if_pos HNE.out]); rw [HL.out]; rfl, belowT HB2.out hb3⟩
 · have hd : ((n : Int) != szF ty ln) = true := by simp [hne]
   have g15 := (HG2.out.at_ 15 (by omega) (by omega)).glob
   simp only [sgb] at g15
   have HNE := Lib.hid hne
   clear hne
   go_wp2_with fail
   go_region
   all_goals
    go_wp2_with fail
    go_ret2
    exact ⟨by (try rw [if_neg HNE.out]); rfl, HB2.out.drew⟩
end Go.Proofs.YtidmgckmphcegaaGreatDoor
