import Derived.Test.YtidmgckmphcegaaGreatDoorMG
import Derived.Test.YtidmgckmphcegaaGreatDoorMA
import Derived.Test.YtidmgckmphcegaaGreatDoorMB
import Derived.Test.YtidmgckmphcegaaGreatDoorMF
import Derived.Test.YtidmgckmphcegaaGreatDoorMS
import Derived.Maps.AppendAt
import Derived.Test.YtidmgckmphcegaaGreatDoorMW
import Derived.Laws.BitsAllLaws
/-
 script.Read.
-/
namespace Go.Proofs.YtidmgckmphcegaaGreatDoor
open Go.RowKit
set_option linter.unusedVariables false
set_option linter.unusedSimpArgs false
theorem bs_one (w : World) (x : Int) (h0 : 0 ≤ x) (h1 : x ≤ 255) : Bs (w.alloc (.cells #[.int .u8 x] 5)) (some ⟨w.heap.size, 0, none⟩) 1 1 [x] :=
 ⟨rfl, Nat.le_refl _, by omega, (fun y hy => by obtain rfl := List.mem_singleton.1 hy; exact ⟨h0, h1⟩), (fun h => by cases h), fun _ => ⟨_, 0, rfl, fun j hj => by
  obtain rfl : j = 0 := by omega
  exact cell_blk (alloc_at w (.cells #[.int .u8 x] 5)) rfl⟩⟩
theorem hexV_index : ∀ k : Fin 256, Lib.indexByte hexS.data.toList (UInt8.ofNat k.1) = (match hexV (UInt8.ofNat k.1) with | some n => (n : Int) | none => -1) := by decide +kernel
theorem hex_index (c : UInt8) : Lib.indexByte hexS.data.toList ((c.toNat : Int).toNat.toUInt8) = (match hexV c with | some n => (n : Int) | none => -1) := by
 have h := hexV_index ⟨c.toNat, c.toNat_lt⟩
 have e : UInt8.ofNat c.toNat = c := by simp
 simp only [e] at h
 rw [Int.toNat_natCast, Nat.toUInt8, e]
 exact h
theorem readL_none {c : UInt8} {r : List UInt8} (hp : plainN c.toNat = false) (h : c ≠ 37 ∨ r.length < 2) : readL (c :: r) = none := by
 rw [readL.eq_def]
 simp only [hp, Bool.false_eq_true, if_false]
 match r with
 | [] => rfl
 | [_] => rfl
 | a :: b :: t =>
   simp only
   rcases h with h | h
   · rw [if_neg h]
   · simp at h; omega
theorem readL_hex {h l : UInt8} {r : List UInt8} : readL (37 :: h :: l :: r) = (match hexV h, hexV l with
    | some a, some b => if plainN (16 * a + b) then none else (readL r).map (((16 * a + b : Nat) : Int) :: ·)
    | _, _ => none) := by
 rw [readL.eq_def]
 have : plainN (37 : UInt8).toNat = false := by decide
 simp only [this, Bool.false_eq_true, if_false, if_true]
 cases hexV h <;> cases hexV l <;> rfl
theorem or_hex : ∀ a b : Fin 16, bits .or .i64 ((a.1 : Int) * 16) b.1 % 256 = ((16 * a.1 + b.1 : Nat) : Int) := by decide +kernel
theorem or_hex' {a b : Nat} (ha : a < 16) (hb : b < 16) : bits .or .i64 ((a : Int) * 16) b % 256 = ((16 * a + b : Nat) : Int) := or_hex ⟨a, ha⟩ ⟨b, hb⟩
theorem read_of {l : List UInt8} (h : l ≠ [37]) (hr : readL l = none) : read l = none := by
 unfold read
 rw [if_neg h]
 split
 · rfl
 · exact hr
theorem hex_some {c : UInt8} {n : Nat} (h : hexV c = some n) (w : World) :
    Calls Tryz.prog 100 #[.string hexS, .int .u8 c.toNat] w fun e w' => e = .returned (.int .i64 n) ∧ w' = w := by
 have := Tryz.strings_IndexByte hexS c.toNat w
 rw [hex_index, h] at this
 exact this
theorem hex_none {c : UInt8} (h : hexV c = none) (w : World) :
    Calls Tryz.prog 100 #[.string hexS, .int .u8 c.toNat] w fun e w' => e = .returned (.int .i64 (-1)) ∧ w' = w := by
 have := Tryz.strings_IndexByte hexS c.toNat w
 rw [hex_index, h] at this
 exact this
def ReadTo (sa : Nat → Addr) (w : World) (l : List UInt8) (e : Ending) (w' : World) : Prop :=
 match read l with
 | none => e = .returned (.tuple #[.slice none 0 0, sv (sa 41)]) ∧ Below w.heap.size w w'
 | some d => ∃ v, e = .returned (.tuple #[v, .nilIface]) ∧ Own w' w.heap.size v d ∧ Below w.heap.size w w'
structure RLoop (w wr : World) (l : List UInt8) (k : Nat) (v : Value) (xs : List Int) : Prop where
 own : Own wr w.heap.size v xs
 byt : ∀ x ∈ xs, 0 ≤ x ∧ x ≤ 255
 rd : readL l = (readL (l.drop k)).map (xs ++ ·)
 bel : Below w.heap.size w wr
 len : xs.length ≤ k
set_option maxRecDepth 100000 in
set_option maxHeartbeats 1000000 in
theorem read_any {sa : Nat → Addr} (s : ByteArray) (hs : s.size ≤ 1099511627776) (w : World) (hG : Good w sa) :
    Calls Tryz.prog 61 #[.string s] w (ReadTo sa w s.data.toList) := by
 have HG := Lib.hid hG
 clear hG
 by_cases h37 : s = ⟨#[37]⟩
 · subst h37
   clear hs
   go_enter Tryz.func61, Tryz.ntmps61
   go_wp2_with fail
   go_ret2
   exact ⟨_, rfl, own_new w w.heap.size [] (Nat.le_refl _) (by simp), (Below.refl _ _).alloc (Nat.le_refl _) _⟩
 · have hl37 : s.data.toList ≠ [37] := fun e => h37 (ba_ls e)
   have HL37 := Lib.hid hl37
   have h37' : (s.toList == [37]) = false := by rw [Lib.toList_data]; exact beq_eq_false_iff_ne.2 hl37
   clear hl37 h37
   go_enter Tryz.func61, Tryz.ntmps61
   go_wp2_with fail
   go_loopw [4, 5] (fun v i wr => ∃ (k : Nat) (xs : List Int), k ≤ s.size ∧ i = .int .i64 k ∧ Hid (RLoop w wr s.data.toList k v xs)) (fun _ i _ => s.size - (intOf i).toNat)
   case atStart => exact ⟨0, [], by omega, rfl, World.ownsRow_nil _ _ _ _, by simp, by simp, Below.refl _ _, by simp⟩
   case round =>
    obtain ⟨k, xs, hk, rfl, HR⟩ := hrel
    by_cases hlt : k < s.size
    · have hkl : k < s.data.toList.length := by simpa using hlt
      have hc := (s[k]'hlt).toNat_lt
      have hdr : s.data.toList.drop k = s[k]'hlt :: s.data.toList.drop (k + 1) := by rw [List.drop_eq_getElem_cons hkl]; rfl
      have HD := Lib.hid hdr
      have hp1 := fun W => plain_any ((s[k]'hlt).toNat : Int) (by omega) (by omega) W
      clear hdr
      go_wp2_with fail
      refine (hp1 _).mono ?_
      rintro e w1 ⟨rfl, rfl⟩
      clear hp1
      by_cases hp : plainN (s[k]'hlt).toNat = true
      · have hwz : w.heap.size ≤ w1.heap.size := HR.out.bel.size
        have hln := HR.out.len
        have HP := Lib.hid hp
        have hba : Below w1.heap.size w1 (w1.alloc (.cells #[.int .u8 (s[k]'hlt).toNat] 5)) := (Below.refl _ _).alloc (Nat.le_refl _) _
        have HOa := Lib.hid (HR.out.own.next hba)
        have HBa := Lib.hid (bs_one w1 (s[k]'hlt).toNat (by omega) (by omega))
        have HBb := Lib.hid (HR.out.bel.alloc hwz (.cells #[.int .u8 (s[k]'hlt).toNat] 5))
        clear hba
        go_wp2_with (at_builtin; go_loud (refine wpList_append_bs rfl (.tmp 23) (.tmp 25) rfl w.heap.size u4 xs rfl HOa.out (some ⟨w1.heap.size, 0, none⟩) 1 1 [((s[k]'hlt).toNat : Int)] rfl HBa.out (by omega) (by simp; omega) ?_; intro v2 w2 ho2 hg2 _; have HB2 := Lib.hid (HBb.out.grown hg2 (by simp; omega) (fun j hj => (HOa.out.lt j hj).1)); have HO2 := Lib.hid ho2; clear ho2 hg2))
        go_roundw
        case rel =>
         refine ⟨k + 1, xs ++ [((s[k]'hlt).toNat : Int)], by omega, by go_num, HO2.out, ?_, ?_, HB2.out, by simp; omega⟩
         · intro y hy
           rcases List.mem_append.1 hy with hy | hy
           · exact HR.out.byt y hy
           · obtain rfl := List.mem_singleton.1 hy
             omega
         · rw [HR.out.rd, HD.out, readL.eq_def]
           simp only
           rw [if_pos HP.out]
           cases readL (s.data.toList.drop (k + 1)) <;> simp
        case measure => simp [intOf]; omega
      · have hp' : plainN (s[k]'hlt).toNat = false := by simpa using hp
        have HP := Lib.hid hp'
        clear hp
        have hG1 := HG.out.below HR.out.bel
        have g41 := (hG1.at_ 41 (by omega) (by omega)).glob
        simp only [sgb] at g41
        clear hG1
        by_cases h37 : s[k]'hlt = 37
        · have hcc : (((s[k]'hlt).toNat : Int) != 37) = false := by rw [h37]; rfl
          by_cases h2 : k + 2 < s.size
          · have hk2 : ((k : Int) + 2 < s.size) := by omega
            have hd1 : s.data.toList.drop (k + 1) = s[k + 1]'(by omega) :: s[k + 2]'h2 :: s.data.toList.drop (k + 3) := by
             rw [List.drop_eq_getElem_cons (by simp; omega), List.drop_eq_getElem_cons (by simp; omega)]; rfl
            have HD1 := Lib.hid hd1
            have H37 := Lib.hid h37
            clear h37 hd1
            cases hh : hexV (s[k + 1]'(by omega)) with
            | none =>
              have hc1 := hex_none hh w1
              have hc2 : ∃ z : Int, ∀ W, Calls Tryz.prog 100 #[.string hexS, .int .u8 ((s[k + 2]'h2).toNat : Int)] W fun e w' => e = .returned (.int .i64 z) ∧ w' = W := by
               cases hl : hexV (s[k + 2]'h2) with
               | none => exact ⟨-1, hex_none hl⟩
               | some b => exact ⟨b, hex_some hl⟩
              obtain ⟨z, hc2⟩ := hc2
              have HRN : Hid (read s.data.toList = none) := read_of HL37.out (by rw [HR.out.rd, HD.out, H37.out, HD1.out, readL_hex, hh]; rfl)
              clear hh
              go_wp2_with fail
              refine hc1.mono ?_
              rintro e w2 ⟨rfl, rfl⟩
              clear hc1
              go_wp2_with fail
              refine (hc2 _).mono ?_
              rintro e w3 ⟨rfl, rfl⟩
              clear hc2
              go_wp2_with fail
              go_region
              all_goals
               go_wp2_with fail
               go_ret2
               show ReadTo _ _ _ _ _
               unfold ReadTo
               rw [HRN.out]
               exact ⟨rfl, HR.out.bel.drew⟩
            | some a =>
              have hc1 := hex_some hh w1
              have ha := hexV_lt hh
              cases hl : hexV (s[k + 2]'h2) with
              | none =>
                have hc2 := hex_none hl w1
                have HRN : Hid (read s.data.toList = none) := read_of HL37.out (by rw [HR.out.rd, HD.out, H37.out, HD1.out, readL_hex, hh, hl]; rfl)
                clear hh hl
                go_wp2_with fail
                refine hc1.mono ?_
                rintro e w2 ⟨rfl, rfl⟩
                clear hc1
                go_wp2_with fail
                refine hc2.mono ?_
                rintro e w3 ⟨rfl, rfl⟩
                clear hc2
                go_wp2_with fail
                go_region
                all_goals
                 go_wp2_with fail
                 go_ret2
                 show ReadTo _ _ _ _ _
                 unfold ReadTo
                 rw [HRN.out]
                 exact ⟨rfl, HR.out.bel.drew⟩
              | some b =>
                have hc2 := hex_some hl w1
                have hb := hexV_lt hl
                have HH := Lib.hid hh
                have HL := Lib.hid hl
                obtain ⟨x, hx⟩ : ∃ x, x = 16 * a + b := ⟨_, rfl⟩
                have hor : bits .or .i64 ((a : Int) * 16) b % 256 = (x : Int) := by rw [hx]; exact or_hex' ha hb
                have hxl : x < 256 := by omega
                have HX := Lib.hid hx
                clear hx
                clear hh hl
                go_wp2_with fail
                refine hc1.mono ?_
                rintro e w2 ⟨rfl, rfl⟩
                clear hc1
                go_wp2_with fail
                refine hc2.mono ?_
                rintro e w3 ⟨rfl, rfl⟩
                clear hc2
                go_wp2_with fail
                refine (plain_any (x : Int) (by omega) (by omega) w3).mono ?_
                rintro e w4 ⟨rfl, rfl⟩
                by_cases hq : plainN x = true
                · have HRN : Hid (read s.data.toList = none) := read_of HL37.out (by rw [HR.out.rd, HD.out, H37.out, HD1.out, readL_hex, HH.out, HL.out]; simp only; rw [← HX.out, if_pos hq]; rfl)
                  go_wp2_with fail
                  go_region
                  all_goals
                   go_wp2_with fail
                   go_ret2
                   show ReadTo _ _ _ _ _
                   unfold ReadTo
                   rw [HRN.out]
                   exact ⟨rfl, HR.out.bel.drew⟩
                · have hq' : plainN x = false := by simpa using hq
                  have HQ := Lib.hid hq
                  clear hq
                  have hwz : w.heap.size ≤ w4.heap.size := HR.out.bel.size
                  have hln := HR.out.len
                  have hba : Below w4.heap.size w4 (w4.alloc (.cells #[.int .u8 (x : Int)] 5)) := (Below.refl _ _).alloc (Nat.le_refl _) _
                  have HOa := Lib.hid (HR.out.own.next hba)
                  have HBa := Lib.hid (bs_one w4 (x : Int) (by omega) (by omega))
                  have HBb := Lib.hid (HR.out.bel.alloc hwz (.cells #[.int .u8 (x : Int)] 5))
                  clear hba
                  go_wp2_with (at_builtin; go_loud (refine wpList_append_bs rfl _ _ rfl w.heap.size u4 xs rfl HOa.out (some ⟨w4.heap.size, 0, none⟩) 1 1 [(x : Int)] rfl HBa.out (by omega) (by simp; omega) ?_; intro v2 w5 ho2 hg2 _; have HB2 := Lib.hid (HBb.out.grown hg2 (by simp; omega) (fun j hj => (HOa.out.lt j hj).1)); have HO2 := Lib.hid ho2; clear ho2 hg2))
                  go_roundw
                  case rel =>
                   refine ⟨k + 3, xs ++ [(x : Int)], by omega, by go_num, HO2.out, ?_, ?_, HB2.out, by simp; omega⟩
                   · intro y hy
                     rcases List.mem_append.1 hy with hy | hy
                     · exact HR.out.byt y hy
                     · obtain rfl := List.mem_singleton.1 hy
                       omega
                   · rw [HR.out.rd, HD.out, H37.out, HD1.out, readL_hex, HH.out, HL.out]
                     simp only
                     rw [← HX.out, if_neg HQ.out]
                     cases readL (s.data.toList.drop (k + 3)) <;> simp
                  case measure => simp [intOf]; omega
          · have hk2 : ¬ ((k : Int) + 2 < s.size) := by omega
            have hk3 : ((s.size : Int) ≤ (k : Int) + 2) := by omega
            have HRN : Hid (read s.data.toList = none) := read_of HL37.out (by rw [HR.out.rd, HD.out, readL_none HP.out (.inr (by rw [List.length_drop]; have : s.data.toList.length = s.size := (by simp); omega))]; rfl)
            clear h37
            go_wp2_with fail
            go_region
            all_goals
             go_wp2_with fail
             go_ret2
             show ReadTo _ _ _ _ _
             unfold ReadTo
             rw [HRN.out]
             exact ⟨rfl, HR.out.bel.drew⟩
        · have hcc : (((s[k]'hlt).toNat : Int) != 37) = true := by
            rw [bne_iff_ne]; intro e; exact h37 (UInt8.toNat.inj (by have : (37 : UInt8).toNat = 37 := rfl; omega))
          have HRN : Hid (read s.data.toList = none) := read_of HL37.out (by rw [HR.out.rd, HD.out, readL_none HP.out (.inl h37)]; rfl)
          clear h37
          go_wp2_with fail
          go_region
          all_goals
           go_wp2_with fail
           go_ret2
           show ReadTo _ _ _ _ _
           unfold ReadTo
           rw [HRN.out]
           exact ⟨rfl, HR.out.bel.drew⟩
    · obtain rfl : k = s.size := by omega
      have hd : decide ((s.size : Int) < (s.size : Int)) = false := by simp
      have hdr : s.data.toList.drop s.size = [] := List.drop_of_length_le (by simp)
      have hrd := HR.out.rd
      rw [hdr, readL] at hrd
      simp only [Option.map_some, List.append_nil] at hrd
      have HRD := Lib.hid hrd
      have hG1 := HG.out.below HR.out.bel
      have g41 := (hG1.at_ 41 (by omega) (by omega)).glob
      simp only [sgb] at g41
      clear hG1 hdr hrd
      obtain ⟨A, c, hv, hB⟩ := HR.out.own.bs HR.out.byt
      subst hv
      by_cases hx : xs = []
      · have HRN : Hid (read s.data.toList = none) := by
          have h0 := readL_sound HRD.out
          rw [hx] at h0
          unfold read
          show (if _ then _ else _) = _
          have hnil : s.data.toList = [] := h0.1.symm
          rw [if_neg HL37.out, if_pos hnil]
        have hx0 : xs.length = 0 := by rw [hx]; rfl
        clear hx hB
        go_wp2_with fail
        go_region
        all_goals
         go_wp2_with fail
         go_ret2
         show ReadTo _ _ _ _ _
         unfold ReadTo
         rw [HRN.out]
         exact ⟨rfl, HR.out.bel.drew⟩
      · have HRN : Hid (read s.data.toList = some xs) := by
          unfold read
          show (if _ then _ else _) = _
          rw [if_neg HL37.out, if_neg, HRD.out]
          intro e
          have := HRD.out
          rw [e] at this
          exact hx (by simpa [readL] using this.symm)
        have hx0 : ((xs.length : Int) == 0) = false := by
         rw [beq_eq_false_iff_ne]; intro e; exact hx (List.eq_nil_of_length_eq_zero (by omega))
        clear hx hB
        go_wp2_with fail
        go_ret2
        show ReadTo _ _ _ _ _
        unfold ReadTo
        rw [HRN.out]
        exact ⟨_, rfl, HR.out.own, HR.out.bel⟩
end Go.Proofs.YtidmgckmphcegaaGreatDoor
/-
 tap's words: is, number, after.
-/
namespace Go.Proofs.YtidmgckmphcegaaGreatDoor
open Go.RowKit
set_option linter.unusedVariables false
set_option linter.unusedSimpArgs false
structure WS (w : World) (b g o c : Nat) (ws : Wds) (bad : Bool) : Prop where
 blk : w.heap[b]? = some (.cells #[.slice (some ⟨g, o, none⟩) ws.length c, .bool bad] 104 (0, 0))
 gb : g < b
 cap : ws.length ≤ c
 max : c ≤ 9223372036854775807
 rd : ∀ j x, ws[j]? = some x → w.cell? ⟨g, o + j, none⟩ = some (.string ⟨x.toArray⟩)
 sml : ∀ x ∈ ws, x.length ≤ 1099511627776
theorem WS.ne {w : World} {b g o c : Nat} {ws : Wds} {bad : Bool} (h : WS w b g o c ws bad) : g ≠ b := Nat.ne_of_lt h.gb
def WSt (w : World) (b : Nat) (ws : Wds) (bad : Bool) : Prop := ∃ g o c, WS w b g o c ws bad
theorem WS.lt {w : World} {b g o c : Nat} {ws : Wds} {bad : Bool} (h : WS w b g o c ws bad) : b < w.heap.size := (Array.getElem?_eq_some_iff.1 h.blk).1
theorem WS.next {w w' : World} {b g o c : Nat} {ws : Wds} {bad : Bool} (h : WS w b g o c ws bad) (hb : Below w.heap.size w w') : WS w' b g o c ws bad :=
 ⟨keepB hb h.blk, h.gb, h.cap, h.max, fun j x hj => keepA hb (h.rd j x hj), h.sml⟩
theorem WSt.next {w w' : World} {b : Nat} {ws : Wds} {bad : Bool} (h : WSt w b ws bad) (hb : Below w.heap.size w w') : WSt w' b ws bad := by
 obtain ⟨g, o, c, h⟩ := h; exact ⟨g, o, c, h.next hb⟩
theorem WSt.lt {w : World} {b : Nat} {ws : Wds} {bad : Bool} (h : WSt w b ws bad) : b < w.heap.size := by obtain ⟨g, o, c, h⟩ := h; exact h.lt
theorem grown_of_below {w w' : World} (hb : Below w.heap.size w w') (r : Option Nat) : w.grownBy w' r := ⟨hb.os, hb.tape, hb.output, hb.size, fun i hi _ => hb.block i hi⟩
theorem grown_set (w : World) (b j : Nat) (v : Value) : w.grownBy (w.setCell ⟨b, j, none⟩ v) (some b) := by
 refine ⟨rfl, rfl, rfl, by simp [World.setCell], fun i hi hne => ?_⟩
 exact set_other v (fun e => hne (by rw [e]))
theorem set_cell_far {w : World} {b j : Nat} {v : Value} {a : Addr} (h : a.block ≠ b) : (w.setCell ⟨b, j, none⟩ v).cell? a = w.cell? a := by
 obtain ⟨k, o, e⟩ := a
 simp only [World.cell?]
 rw [set_other v h]
theorem WS.drop {w : World} {b g o c : Nat} {x : List UInt8} {r : Wds} {bad : Bool} (h : WS w b g o c (x :: r) bad) :
    (c = 1 → WS (w.setCell ⟨b, 0, none⟩ (.slice (some ⟨g, o, none⟩) r.length 0)) b g o 0 r bad) ∧ (c ≠ 1 → WS (w.setCell ⟨b, 0, none⟩ (.slice (some ⟨g, o + 1, none⟩) r.length (c - 1))) b g (o + 1) (c - 1) r bad) := by
 have hcap := h.cap
 have hmax := h.max
 simp only [List.length_cons] at hcap
 have hb : ∀ v, (w.setCell ⟨b, 0, none⟩ v).heap[b]? = some (.cells #[v, .bool bad] 104 (0, 0)) := by
  intro v
  rw [set_blk _ h.blk]; simp
 refine ⟨fun hc => ?_, fun hc => ?_⟩
 · obtain rfl : r = [] := List.eq_nil_of_length_eq_zero (by omega)
   exact ⟨hb _, h.gb, by simp, by omega, fun j x hj => by simp at hj, by simp⟩
 · refine ⟨hb _, h.gb, by omega, by omega, fun j y hj => ?_, fun y hy => h.sml y (by simp [hy])⟩
   rw [set_cell_far h.ne]
   have := h.rd (j + 1) y (by simpa using hj)
   rwa [show o + (j + 1) = o + 1 + j by omega] at this
theorem WS.bad {w : World} {b g o c : Nat} {ws : Wds} {bad : Bool} (h : WS w b g o c ws bad) (q : Bool) : WS (w.setCell ⟨b, 1, none⟩ (.bool q)) b g o c ws q := by
 refine ⟨?_, h.gb, h.cap, h.max, fun j x hj => ?_, h.sml⟩
 · rw [set_blk _ h.blk]; simp
 · rw [set_cell_far h.ne]; exact h.rd j x hj
set_option maxRecDepth 100000 in
set_option maxHeartbeats 1000000 in
theorem is_any' {b : Nat} {ws : Wds} {bad : Bool} {w : World} (word : ByteArray) (h : WSt w b ws bad) :
    Calls Tryz.prog 97 #[.pointer (some ⟨b, 0, none⟩), .string word] w fun e w' => e = .returned (.bool (isW word.data.toList ws).isSome) ∧ WSt w' b ((isW word.data.toList ws).getD ws) bad ∧ w.grownBy w' (some b) := by
 obtain ⟨g, o, c, hS⟩ := h
 have hcap := hS.cap
 have hmax := hS.max
 have c0 : w.cell? ⟨b, 0, none⟩ = some (.slice (some ⟨g, o, none⟩) ws.length c) := cell_blk hS.blk rfl
 have f0 : w.frozen? ⟨b, 0, none⟩ = false := free_blk hS.blk
 cases ws with
 | nil =>
   have HS := Lib.hid hS
   clear hS
   go_enter Tryz.func97, Tryz.ntmps97
   go_wp2_with fail
   go_ret
   exact ⟨rfl, ⟨g, o, c, HS.out⟩, World.grownBy.refl _ _⟩
 | cons x r =>
   obtain ⟨X, hX⟩ : ∃ X : ByteArray, X = ⟨x.toArray⟩ := ⟨_, rfl⟩
   have hx : X.toList = x := by rw [hX, Lib.toList_data]
   have cx : w.cell? ⟨g, o, none⟩ = some (.string X) := by rw [hX]; exact hS.rd 0 x rfl
   have hz : ((((x :: r).length : Nat) : Int) == 0) = false := by simp; omega
   have hlen : (x :: r).length = r.length + 1 := rfl
   rw [hlen] at c0 hcap hz
   by_cases hq : x = word.data.toList
   · have hq' : (X.toList == word.toList) = true := by rw [hx, Lib.toList_data, hq]; simp
     have HI : Hid (isW word.data.toList (x :: r) = some r) := by show isW _ _ = _; rw [hq, isW_some]
     have HS := Lib.hid hS
     clear hS hx hX hlen hq
     by_cases hc1 : c = 1
     · have hd := HS.out.drop.1 hc1
       have hr0 : r.length = 0 := by omega
       rw [hr0] at hd
       have HD := Lib.hid hd
       subst hc1
       clear hd
       go_enter Tryz.func97, Tryz.ntmps97
       go_wp2_with fail
       go_ret
       exact ⟨by rw [HI.out]; rfl, ⟨g, _, _, by rw [HI.out]; exact HD.out⟩, grown_set _ _ _ _⟩
     · have hd := HS.out.drop.2 hc1
       have HD := Lib.hid hd
       clear hd
       go_enter Tryz.func97, Tryz.ntmps97
       go_wp2_with fail
       go_ret
       exact ⟨by rw [HI.out]; rfl, ⟨g, _, _, by rw [HI.out]; exact HD.out⟩, grown_set _ _ _ _⟩
   · have hq' : (X.toList == word.toList) = false := by rw [hx, Lib.toList_data]; exact beq_eq_false_iff_ne.2 hq
     have HI : Hid (isW word.data.toList (x :: r) = none) := by show isW _ _ = _; exact isW_none hq
     have HS := Lib.hid hS
     clear hS hx hX hlen hq
     go_enter Tryz.func97, Tryz.ntmps97
     go_wp2_with fail
     go_ret
     exact ⟨by rw [HI.out]; rfl, ⟨g, o, c, by rw [HI.out]; exact HS.out⟩, World.grownBy.refl _ _⟩
structure NErr (w : World) : Prop where
 syn : ∃ te pe, w.cell? ⟨49, 0, none⟩ = some (.iface te pe)
 rng : ∃ te pe, w.cell? ⟨50, 0, none⟩ = some (.iface te pe)
theorem NErr.below {w w' : World} (h : NErr w) (hb : Below w.heap.size w w') : NErr w' := by
 obtain ⟨⟨a, b, h1⟩, ⟨c, d, h2⟩⟩ := h
 exact ⟨⟨a, b, keepA hb h1⟩, ⟨c, d, keepA hb h2⟩⟩
theorem NErr.grown {w w' : World} {b : Nat} {ws : Wds} {bad : Bool} (h : NErr w) (hS : WSt w b ws bad) (hg : w.grownBy w' (some b)) : NErr w' := by
 obtain ⟨⟨a, p, h1⟩, ⟨d, q, h2⟩⟩ := h
 obtain ⟨g, o, c, hS⟩ := hS
 have c0 : w.cell? ⟨b, 0, none⟩ = some (.slice (some ⟨g, o, none⟩) ws.length c) := cell_blk hS.blk rfl
 have key : ∀ (k : Nat) (T : TypeId) (x : Value), w.cell? ⟨k, 0, none⟩ = some (.iface T x) → w'.cell? ⟨k, 0, none⟩ = some (.iface T x) := by
  intro k T x hk
  have hne : k ≠ b := by
   intro e; subst e
   rw [c0] at hk; cases hk
  rw [hg.cell_far ⟨k, 0, none⟩ (World.block_lt_of_cell? w _ hk) (by simpa using hne)]
  exact hk
 exact ⟨⟨a, p, key _ _ _ h1⟩, ⟨d, q, key _ _ _ h2⟩⟩
theorem bytesWorld_below (w : World) (e : TypeId) (s : ByteArray) : Below w.heap.size w (Lib.bytesWorld w e s) := by
 unfold Lib.bytesWorld
 exact Lib.below_freeze (((Below.refl w.heap.size w).drew).alloc (Nat.le_refl _) _) (Nat.le_refl _) _
def PU (B : Nat) (x : List UInt8) (w : World) (e : Ending) (w' : World) : Prop :=
 match Lib.parseUintB B x with
 | .ok n => e = .returned (.tuple #[.int .u64 n, .nilIface]) ∧ Below w.heap.size w w'
 | Lib.NumEnd.syntax => ∃ N, e = .returned (.tuple #[.int .u64 0, .iface 237 (.pointer (some ⟨N, 0, none⟩))]) ∧ Below w.heap.size w w'
 | .range => ∃ N, e = .returned (.tuple #[.int .u64 ((2 ^ B - 1 : Nat) : Int), .iface 237 (.pointer (some ⟨N, 0, none⟩))]) ∧ Below w.heap.size w w'
theorem puint_any {B : Nat} (hB : B = 8 ∨ B = 16 ∨ B = 32) (s : ByteArray) (hs : s.size ≤ 281474976710656) (w : World) (hN : NErr w) :
    Calls Tryz.prog 123 #[.string s, .int .i64 10, .int .i64 B] w (PU B s.data.toList w) := by
 obtain ⟨⟨t1, p1, h1⟩, ⟨t2, p2, h2⟩⟩ := hN
 cases hc : Lib.parseUintB B s.data.toList with
 | ok n =>
   have key : Calls Tryz.prog 123 #[.string s, .int .i64 10, .int .i64 B] w fun e w' => e = .returned (.tuple #[.int .u64 n, .nilIface]) ∧ (w' = w ∨ w' = Lib.bytesWorld w 5 s) := by
    rcases hB with rfl | rfl | rfl
    · exact Tryz.strconv_ParseUint_10_at8_ok s (by omega) n hc w
    · exact Tryz.strconv_ParseUint_10_at16_ok s (by omega) n hc w
    · exact Tryz.strconv_ParseUint_10_at32_ok s (by omega) n hc w
   refine key.mono ?_
   rintro e w' ⟨he, hw⟩
   unfold PU
   rw [hc]
   refine ⟨he, ?_⟩
   rcases hw with rfl | rfl
   · exact Below.refl _ _
   · exact bytesWorld_below _ _ _
 | range =>
   have key : Calls Tryz.prog 123 #[.string s, .int .i64 10, .int .i64 B] w fun e w' => ∃ N, e = .returned (.tuple #[.int .u64 ((2 ^ B - 1 : Nat) : Int), .iface 237 (.pointer (some ⟨N, 0, none⟩))]) ∧ Below w.heap.size w w' := by
    rcases hB with rfl | rfl | rfl
    · exact (Tryz.strconv_ParseUint_10_at8_range s hs hc _ w h2 (.inr ⟨_, _, rfl⟩)).mono fun e w' ⟨N, a, _, _, d⟩ => ⟨N, a, d⟩
    · exact (Tryz.strconv_ParseUint_10_at16_range s hs hc _ w h2 (.inr ⟨_, _, rfl⟩)).mono fun e w' ⟨N, a, _, _, d⟩ => ⟨N, a, d⟩
    · exact (Tryz.strconv_ParseUint_10_at32_range s hs hc _ w h2 (.inr ⟨_, _, rfl⟩)).mono fun e w' ⟨N, a, _, _, d⟩ => ⟨N, a, d⟩
   refine key.mono ?_
   rintro e w' ⟨N, he, hw⟩
   unfold PU
   rw [hc]
   exact ⟨N, he, hw⟩
 | _ =>
   have key : Calls Tryz.prog 123 #[.string s, .int .i64 10, .int .i64 B] w fun e w' => ∃ N, e = .returned (.tuple #[.int .u64 0, .iface 237 (.pointer (some ⟨N, 0, none⟩))]) ∧ Below w.heap.size w w' := by
    rcases hB with rfl | rfl | rfl
    · exact (Tryz.strconv_ParseUint_10_at8_syntax s hs hc _ w h1 (.inr ⟨_, _, rfl⟩)).mono fun e w' ⟨N, a, _, _, d⟩ => ⟨N, a, d⟩
    · exact (Tryz.strconv_ParseUint_10_at16_syntax s hs hc _ w h1 (.inr ⟨_, _, rfl⟩)).mono fun e w' ⟨N, a, _, _, d⟩ => ⟨N, a, d⟩
    · exact (Tryz.strconv_ParseUint_10_at32_syntax s hs hc _ w h1 (.inr ⟨_, _, rfl⟩)).mono fun e w' ⟨N, a, _, _, d⟩ => ⟨N, a, d⟩
   refine key.mono ?_
   rintro e w' ⟨N, he, hw⟩
   unfold PU
   rw [hc]
   exact ⟨N, he, hw⟩
set_option maxRecDepth 100000 in
set_option maxHeartbeats 1000000 in
theorem number_any' {b : Nat} {ws : Wds} {bad : Bool} {w : World} {B : Nat} (hB : B = 8 ∨ B = 16 ∨ B = 32) (hN : NErr w) (h : WSt w b ws bad) :
    Calls Tryz.prog 98 #[.pointer (some ⟨b, 0, none⟩), .int .i64 B] w fun e w' => e = .returned (.int .u64 (numW B ws bad).1) ∧ WSt w' b (numW B ws bad).2.1 (numW B ws bad).2.2 ∧ w.grownBy w' (some b) := by
 obtain ⟨g, o, c, hS⟩ := h
 have hcap := hS.cap
 have hmax := hS.max
 have c0 : w.cell? ⟨b, 0, none⟩ = some (.slice (some ⟨g, o, none⟩) ws.length c) := cell_blk hS.blk rfl
 have f0 : w.frozen? ⟨b, 0, none⟩ = false := free_blk hS.blk
 cases ws with
 | nil =>
   have c1 : w.cell? ⟨b, 1, none⟩ = some (.bool bad) := cell_blk hS.blk rfl
   have f1 : w.frozen? ⟨b, 1, none⟩ = false := free_blk hS.blk
   have HS := Lib.hid (hS.bad true)
   clear hS
   go_enter Tryz.func98, Tryz.ntmps98
   go_wp2_with fail
   go_ret
   exact ⟨rfl, ⟨g, o, c, HS.out⟩, grown_set _ _ _ _⟩
 | cons x r =>
   obtain ⟨X, hX⟩ : ∃ X : ByteArray, X = ⟨x.toArray⟩ := ⟨_, rfl⟩
   have hxs : X.size ≤ 281474976710656 := by rw [hX]; exact Nat.le_trans (hS.sml x (by simp)) (by omega)
   have cx : w.cell? ⟨g, o, none⟩ = some (.string X) := by rw [hX]; exact hS.rd 0 x rfl
   have hz : ((((x :: r).length : Nat) : Int) == 0) = false := by simp; omega
   have hlen : (x :: r).length = r.length + 1 := rfl
   have hP := puint_any hB X hxs w hN
   have hxl : X.data.toList = x := by rw [hX]
   rw [hxl] at hP
   rw [hlen] at c0 hcap hz
   have HS := Lib.hid hS
   have HP := Lib.hid hP
   clear hS hX hlen hP hN hxl hxs
   go_enter Tryz.func98, Tryz.ntmps98
   go_wp2_with fail
   refine HP.out.mono ?_
   rintro e w1 hP1
   obtain ⟨n, ev, q, he, hb1, hev, hnum⟩ : ∃ (n : Nat) (ev : Value) (q : Bool), e = .returned (.tuple #[.int .u64 n, ev]) ∧ Below w.heap.size w w1 ∧ ((q = false ∧ ev = .nilIface) ∨ (q = true ∧ ∃ N, ev = .iface 237 (.pointer (some ⟨N, 0, none⟩)))) ∧ numW B (x :: r) bad = (n, r, bad || q) := by
    unfold PU at hP1
    cases hc : Lib.parseUintB B x with
    | ok n => rw [hc] at hP1; exact ⟨n, _, false, hP1.1, hP1.2, .inl ⟨rfl, rfl⟩, by simp only [numW, hc, Bool.or_false]⟩
    | range => rw [hc] at hP1; obtain ⟨N, h1, h2⟩ := hP1; exact ⟨2 ^ B - 1, _, true, h1, h2, .inr ⟨rfl, N, rfl⟩, by simp only [numW, hc, Bool.or_true]⟩
    | _ => rw [hc] at hP1; obtain ⟨N, h1, h2⟩ := hP1; exact ⟨0, _, true, h1, h2, .inr ⟨rfl, N, rfl⟩, by simp only [numW, hc, Bool.or_true]⟩
   subst he
   have HN := Lib.hid hnum
   have HB1 := Lib.hid hb1
   have HS1 := Lib.hid (HS.out.next hb1)
   clear hP1 hnum hb1 HS HP c0 f0 cx
   have c0 : w1.cell? ⟨b, 0, none⟩ = some (.slice (some ⟨g, o, none⟩) (r.length + 1) c) := cell_blk HS1.out.blk rfl
   have f0 : w1.frozen? ⟨b, 0, none⟩ = false := free_blk HS1.out.blk
   have c1 : w1.cell? ⟨b, 1, none⟩ = some (.bool bad) := cell_blk HS1.out.blk rfl
   have f1 : w1.frozen? ⟨b, 1, none⟩ = false := free_blk HS1.out.blk
   obtain ⟨o', n', c', hv, hd⟩ : ∃ o' n' c', (∀ v : Value, v = .slice (some ⟨g, o', none⟩) n' c' → v = v) ∧ (WS (w1.setCell ⟨b, 0, none⟩ (.slice (some ⟨g, o', none⟩) n' c')) b g o' c' r bad ∧ ((c = 1 ∧ o' = o ∧ n' = 0 ∧ c' = 0) ∨ (c ≠ 1 ∧ o' = o + 1 ∧ n' = r.length ∧ c' = c - 1))) := by
    by_cases hc1 : c = 1
    · have hd := HS1.out.drop.1 hc1
      have hr0 : r.length = 0 := by omega
      rw [hr0] at hd
      exact ⟨o, 0, 0, fun _ _ => rfl, hd, .inl ⟨hc1, rfl, rfl, rfl⟩⟩
    · exact ⟨o + 1, r.length, c - 1, fun _ _ => rfl, HS1.out.drop.2 hc1, .inr ⟨hc1, rfl, rfl, rfl⟩⟩
   clear hv
   obtain ⟨hd, hform⟩ := hd
   have e1 : (w1.setCell ⟨b, 0, none⟩ (.slice (some ⟨g, o', none⟩) n' c')).cell? ⟨b, 1, none⟩ = some (.bool bad) := cell_blk hd.blk rfl
   have e2 : (w1.setCell ⟨b, 0, none⟩ (.slice (some ⟨g, o', none⟩) n' c')).frozen? ⟨b, 1, none⟩ = false := free_blk hd.blk
   have hfin := fun q => hd.bad q
   have HF := Lib.hid hfin
   have hr : r.length ≤ 9223372036854775806 := by omega
   clear hd hfin
   have hgr : ∀ q, w.grownBy ((w1.setCell ⟨b, 0, none⟩ (.slice (some ⟨g, o', none⟩) n' c')).setCell ⟨b, 1, none⟩ (.bool q)) (some b) := fun q => ((grown_of_below HB1.out _).trans (grown_set _ _ _ _)).trans (grown_set _ _ _ _)
   have HGR := Lib.hid hgr
   clear hgr
   rcases hform with ⟨hc1, h2, h3, h4⟩ | ⟨hc1, h2, h3, h4⟩
   · subst hc1 h2 h3 h4
     rcases hev with ⟨rfl, rfl⟩ | ⟨rfl, N, rfl⟩ <;> cases bad
     all_goals
      go_wp2_with fail
      go_ret
      exact ⟨by rw [HN.out]; rfl, ⟨g, _, _, by rw [HN.out]; exact HF.out _⟩, HGR.out _⟩
   · subst h2 h3 h4
     rcases hev with ⟨rfl, rfl⟩ | ⟨rfl, N, rfl⟩ <;> cases bad
     all_goals
      go_wp2_with fail
      go_ret
      exact ⟨by rw [HN.out]; rfl, ⟨g, _, _, by rw [HN.out]; exact HF.out _⟩, HGR.out _⟩
theorem after_any' {b : Nat} {ws : Wds} {bad : Bool} {w : World} {B : Nat} (word : ByteArray) (hB : B = 8 ∨ B = 16 ∨ B = 32) (hN : NErr w) (h : WSt w b ws bad) :
    Calls Tryz.prog 99 #[.pointer (some ⟨b, 0, none⟩), .string word, .int .i64 B] w fun e w' => e = .returned (.int .u64 (aftW word.data.toList B ws bad).1) ∧ WSt w' b (aftW word.data.toList B ws bad).2.1 (aftW word.data.toList B ws bad).2.2 ∧ w.grownBy w' (some b) := by
 have HN := Lib.hid hN
 have HS := Lib.hid h
 clear hN h
 go_enter Tryz.func99, Tryz.ntmps99
 go_wp2_with fail
 refine (is_any' word HS.out).mono ?_
 rintro e w1 ⟨rfl, hS1, hg1⟩
 have HG1 := Lib.hid hg1
 cases hI : isW word.data.toList ws with
 | none =>
   rw [hI] at hS1
   have HI := Lib.hid hI
   clear hI hg1
   obtain ⟨g, o, c, hS⟩ := hS1
   have f1 : w1.frozen? ⟨b, 1, none⟩ = false := free_blk hS.blk
   have c1 : w1.cell? ⟨b, 1, none⟩ = some (.bool bad) := cell_blk hS.blk rfl
   have HS1 := Lib.hid (hS.bad true)
   clear hS
   go_wp2_with fail
   go_ret
   have ha : aftW word.data.toList B ws bad = (0, ws, true) := by unfold aftW; rw [HI.out]
   exact ⟨by rw [ha]; rfl, ⟨g, o, c, by rw [ha]; exact HS1.out⟩, HG1.out.trans (grown_set _ _ _ _)⟩
 | some r =>
   rw [hI] at hS1
   have HI := Lib.hid hI
   have HS1 := Lib.hid hS1
   have HN1 := Lib.hid (HN.out.grown HS.out hg1)
   clear hI hg1 hS1
   go_wp2_with fail
   refine (number_any' hB HN1.out HS1.out).mono ?_
   rintro e w2 ⟨rfl, hS2, hg2⟩
   have ha : aftW word.data.toList B ws bad = numW B r bad := by unfold aftW; rw [HI.out]
   have HA := Lib.hid ha
   clear ha
   go_wp2_with fail
   go_ret
   exact ⟨by rw [HA.out]; rfl, by rw [HA.out]; exact hS2, HG1.out.trans hg2⟩
end Go.Proofs.YtidmgckmphcegaaGreatDoor
/-
 tap's words: header.
-/
namespace Go.Proofs.YtidmgckmphcegaaGreatDoor
open Go.RowKit Go.Proofs.YtidmgckmphcegaaGreatDoorW.PrintWords Go.Proofs.YtidmgckmphcegaaGreatDoorW.PrintLast
set_option linter.unusedVariables false
set_option linter.unusedSimpArgs false
abbrev hcs (ver ty fl st ln : Int) : Array Value := #[.int .u8 ver, .int .u8 ty, .int .u16 fl, .int .u32 st, .int .u32 ln]
theorem WSt.only {w w' : World} {b : Nat} {ws : Wds} {bad : Bool} (h : WSt w b ws bad) {k : Nat} (hg : w.grownBy w' (some k)) (hk : b < k) : WSt w' b ws bad := by
 obtain ⟨g, o, c, h⟩ := h
 have hgb := h.gb
 refine ⟨g, o, c, ?_, h.gb, h.cap, h.max, fun j x hj => ?_, h.sml⟩
 · rw [hg.block b h.lt (fun e => by have := Option.some.inj e; omega)]; exact h.blk
 · have := h.rd j x hj
   rw [hg.cell_far _ (World.block_lt_of_cell? w _ this) (fun e => by have := Option.some.inj e; simp only at this; omega)]
   exact this
structure HW (w0 w : World) (b : Nat) (ws : Wds) (bad : Bool) (ver ty fl st ln : Int) : Prop where
 ws : WSt w b ws bad
 lt : b < w0.heap.size
 res : w.heap[w0.heap.size]? = some (.cells (hcs 0 0 0 0 0) 25 (0, 0))
 box : w.heap[w0.heap.size + 1]? = some (.cells (hcs ver ty fl st ln) 25 (0, 0))
 nerr : NErr w
 gr : w0.grownBy w (some b)
theorem HW.sz {w0 w : World} {b : Nat} {ws : Wds} {bad : Bool} {ver ty fl st ln : Int} (h : HW w0 w b ws bad ver ty fl st ln) : w0.heap.size + 1 < w.heap.size := (Array.getElem?_eq_some_iff.1 h.box).1
theorem HW.call {w0 w w' : World} {b : Nat} {ws ws' : Wds} {bad bad' : Bool} {ver ty fl st ln : Int} (h : HW w0 w b ws bad ver ty fl st ln) (hS : WSt w' b ws' bad') (hg : w.grownBy w' (some b)) : HW w0 w' b ws' bad' ver ty fl st ln := by
 have hz := h.sz
 have hl := h.lt
 refine ⟨hS, h.lt, ?_, ?_, h.nerr.grown h.ws hg, h.gr.trans hg⟩
 · rw [hg.block _ (by omega) (fun e => by have := Option.some.inj e; omega)]; exact h.res
 · rw [hg.block _ (by omega) (fun e => by have := Option.some.inj e; omega)]; exact h.box
theorem HW.next {w0 w w' : World} {b : Nat} {ws : Wds} {bad : Bool} {ver ty fl st ln : Int} (h : HW w0 w b ws bad ver ty fl st ln) (hb : Below w.heap.size w w') : HW w0 w' b ws bad ver ty fl st ln :=
 h.call (h.ws.next hb) (grown_of_below hb _)
theorem HW.put {w0 w : World} {b : Nat} {ws : Wds} {bad : Bool} {ver ty fl st ln : Int} (h : HW w0 w b ws bad ver ty fl st ln) (i : Nat) (v : Value) {ver' ty' fl' st' ln' : Int} (e : (hcs ver ty fl st ln).setIfInBounds i v = hcs ver' ty' fl' st' ln') : HW w0 (w.setCell ⟨w0.heap.size + 1, i, none⟩ v) b ws bad ver' ty' fl' st' ln' := by
 have hz := h.sz
 have hl := h.lt
 have hg := grown_set w (w0.heap.size + 1) i v
 have key : ∀ (k : Nat) (T : TypeId) (x : Value), k ≠ w0.heap.size + 1 → w.cell? ⟨k, 0, none⟩ = some (.iface T x) → (w.setCell ⟨w0.heap.size + 1, i, none⟩ v).cell? ⟨k, 0, none⟩ = some (.iface T x) := by
  intro k T x hk hc
  rw [set_cell_far hk]; exact hc
 refine ⟨h.ws.only hg (by omega), h.lt, ?_, ?_, ?_, h.gr.os, h.gr.tape, h.gr.output, Nat.le_trans h.gr.size hg.size, fun k hk hne => ?_⟩
 · rw [set_other v (by omega)]; exact h.res
 · rw [set_blk _ h.box, e]
 · obtain ⟨⟨a, p, h1⟩, ⟨d, q, h2⟩⟩ := h.nerr
   have hb0 : ∀ (k : Nat) (T : TypeId) (x : Value), w.cell? ⟨k, 0, none⟩ = some (.iface T x) → k ≠ w0.heap.size + 1 := by
    intro k T x hk e'
    subst e'
    have := cell_blk (j := 0) h.box rfl
    rw [this] at hk; cases hk
   exact ⟨⟨a, p, key _ _ _ (hb0 _ _ _ h1) h1⟩, ⟨d, q, key _ _ _ (hb0 _ _ _ h2) h2⟩⟩
 · rw [set_other v (by omega)]; exact h.gr.block k hk hne
theorem HW.new {w : World} {b : Nat} {ws : Wds} {bad : Bool} (h : WSt w b ws bad) (hN : NErr w) : HW w ((w.alloc (.cells (hcs 0 0 0 0 0) 25)).alloc (.cells (hcs 0 0 0 0 0) 25)) b ws bad 0 0 0 0 0 := by
 have hb : Below w.heap.size w ((w.alloc (.cells (hcs 0 0 0 0 0) 25)).alloc (.cells (hcs 0 0 0 0 0) 25)) := ba_.alloc (by simp) _
 refine ⟨h.next hb, h.lt, ?_, ?_, hN.below hb, grown_of_below hb _⟩
 · rw [blk_old _ (by simp), alloc_at]
 · have := alloc_at (w.alloc (.cells (hcs 0 0 0 0 0) 25)) (.cells (hcs 0 0 0 0 0) 25)
   simpa using this
theorem kinds_any (w : World) : Calls Tryz.prog 59 #[] w fun e w' => e = .returned (.slice (some ⟨w.heap.size, 0, none⟩) 4 4) ∧ w' = w.alloc (.cells #[.string ⟨#[100, 97, 116, 97]⟩, .string ⟨#[119, 105, 110, 100, 111, 119]⟩, .string ⟨#[112, 105, 110, 103]⟩, .string ⟨#[97, 119, 97, 121]⟩] 9) := by
 go_enter Tryz.func59, Tryz.ntmps59
 go_wp2_with fail
 go_ret
 exact ⟨rfl, rfl⟩
def kindsS : List ByteArray := [⟨#[100, 97, 116, 97]⟩, ⟨#[119, 105, 110, 100, 111, 119]⟩, ⟨#[112, 105, 110, 103]⟩, ⟨#[97, 119, 97, 121]⟩]
def KindsAt (w : World) (g : Nat) : Prop := ∀ j, j < 4 → w.cell? ⟨g, 0 + j, none⟩ = some (.string (kindsS.getD j ByteArray.empty))
theorem KindsAt.new (w : World) : KindsAt (w.alloc (.cells #[.string ⟨#[100, 97, 116, 97]⟩, .string ⟨#[119, 105, 110, 100, 111, 119]⟩, .string ⟨#[112, 105, 110, 103]⟩, .string ⟨#[97, 119, 97, 121]⟩] 9)) w.heap.size := by
 intro j hj
 have hx := alloc_at w (.cells #[.string ⟨#[100, 97, 116, 97]⟩, .string ⟨#[119, 105, 110, 100, 111, 119]⟩, .string ⟨#[112, 105, 110, 103]⟩, .string ⟨#[97, 119, 97, 121]⟩] 9)
 obtain rfl | rfl | rfl | rfl : j = 0 ∨ j = 1 ∨ j = 2 ∨ j = 3 := by omega
 all_goals exact cell_blk hx rfl
theorem kind_index {X : ByteArray} (h : kindB X.data.toList = true) : Lib.idxOfS (kindsS.take 4) X = (kindI X.data.toList : Int) := by
 have key : ∀ i : Fin 4, Lib.idxOfS (kindsS.take 4) ⟨(wKind i).toArray⟩ = (kindI (wKind i) : Int) := by decide +kernel
 have hx : ∃ i : Fin 4, X.data.toList = wKind i := by
  unfold kindB at h
  simp only [Bool.or_eq_true, beq_iff_eq] at h
  rcases h with ((h | h) | h) | h
  · exact ⟨0, h⟩
  · exact ⟨1, h⟩
  · exact ⟨2, h⟩
  · exact ⟨3, h⟩
 obtain ⟨i, hi⟩ := hx
 have := key i
 rw [← hi] at this
 exact this
theorem kindIdx_any {X : ByteArray} (h : kindB X.data.toList = true) {w : World} {g : Nat} (hK : KindsAt w g) :
    Calls Tryz.prog 96 #[.slice (some ⟨g, 0, none⟩) 4 4, .string X] w fun e w' => e = .returned (.int .i64 (kindI X.data.toList)) ∧ w' = w := by
 have := Tryz.slices_Index_string g 0 4 4 kindsS X w (by decide) (by decide) hK
 rw [kind_index h] at this
 exact this
def FlAt (w : World) (g : Nat) : Prop := ∀ j, j < 4 → w.cell? ⟨g, j, none⟩ = some (.string (flW j))
theorem FlAt.new (w : World) : FlAt (w.alloc (.cells #[.string ⟨#[115, 121, 110]⟩, .string ⟨#[97, 99, 107]⟩, .string ⟨#[102, 105, 110]⟩, .string ⟨#[114, 115, 116]⟩] 9)) w.heap.size := by
 intro j hj
 have hx := alloc_at w (.cells #[.string ⟨#[115, 121, 110]⟩, .string ⟨#[97, 99, 107]⟩, .string ⟨#[102, 105, 110]⟩, .string ⟨#[114, 115, 116]⟩] 9)
 obtain rfl | rfl | rfl | rfl : j = 0 ∨ j = 1 ∨ j = 2 ∨ j = 3 := by omega
 all_goals exact cell_blk hx rfl
theorem FlAt.grown {w w' : World} {g b : Nat} (h : FlAt w g) (hg : w.grownBy w' (some b)) (hne : g ≠ b) : FlAt w' g := fun j hj => by
 have := h j hj
 rw [hg.cell_far _ (World.block_lt_of_cell? w _ this) (fun e => hne (Option.some.inj e))]
 exact this
theorem FlAt.next {w w' : World} {g : Nat} (h : FlAt w g) (hb : Below w.heap.size w w') : FlAt w' g := fun j hj => keepA hb (h j hj)
theorem or_flag : ∀ (k : Fin 4) (fl : Fin 8), fl.1 < 2 ^ k.1 → bits .or .u16 (fl.1 : Int) ((2 ^ k.1 : Nat) : Int) = ((fl.1 + 2 ^ k.1 : Nat) : Int) := by decide +kernel
theorem or_flag' (k fl : Nat) (hk : k < 4) (h : fl < 2 ^ k) : bits .or .u16 (fl : Int) ((2 ^ k : Nat) : Int) = ((fl + 2 ^ k : Nat) : Int) := by
 have h8 : fl < 8 := by
  have : 2 ^ k ≤ 2 ^ 3 := Nat.pow_le_pow_right (by omega) (by omega)
  omega
 exact or_flag ⟨k, hk⟩ ⟨fl, h8⟩ h
theorem res_step {w0 w : World} {b : Nat} {ws : Wds} {bad : Bool} (h : WSt w b ws bad ∧ w0.grownBy w (some b)) (hb : b < w0.heap.size) (i : Nat) (v : Value) : WSt (w.setCell ⟨w0.heap.size, i, none⟩ v) b ws bad ∧ w0.grownBy (w.setCell ⟨w0.heap.size, i, none⟩ v) (some b) := by
 obtain ⟨hS, hg⟩ := h
 have hg' := grown_set w w0.heap.size i v
 refine ⟨hS.only hg' hb, hg.os, hg.tape, hg.output, Nat.le_trans hg.size hg'.size, fun k hk hne => ?_⟩
 rw [set_other v (by omega)]; exact hg.block k hk hne
theorem number16 {b : Nat} {ws : Wds} {bad : Bool} {w : World} (hN : NErr w) (h : WSt w b ws bad) :
    Calls Tryz.prog 98 #[.pointer (some ⟨b, 0, none⟩), .int .i64 16] w fun e w' => e = .returned (.int .u64 (numW 16 ws bad).1) ∧ WSt w' b (numW 16 ws bad).2.1 (numW 16 ws bad).2.2 ∧ w.grownBy w' (some b) := number_any' (B := 16) (.inr (.inl rfl)) hN h
set_option maxRecDepth 100000 in
set_option maxHeartbeats 1000000 in
theorem header_any {b : Nat} {ws : Wds} {w : World} (hN : NErr w) (h : WSt w b ws false) (hk : (ws.headD [] == wType || kindB (ws.headD [])) = true) :
    Calls Tryz.prog 60 #[.pointer (some ⟨b, 0, none⟩)] w fun e w' => e = .returned (.agg (hcs (hdrW ws).1.ver (hdrW ws).1.ty (hdrW ws).1.fl (hdrW ws).1.st (hdrW ws).1.ln)) ∧ WSt w' b (hdrW ws).2.1 (hdrW ws).2.2 ∧ w.grownBy w' (some b) := by
 obtain ⟨w0, hw0⟩ : ∃ w0, w0 = (w.alloc (.cells (hcs 0 0 0 0 0) 25)).alloc (.cells (hcs 0 0 0 0 0) 25) := ⟨_, rfl⟩
 have hH : HW w w0 b ws false 0 0 0 0 0 := by rw [hw0]; exact HW.new h hN
 have HH := Lib.hid hH
 have HE := Lib.hid hw0
 clear hw0 hH hN h
 go_enter Tryz.func60, Tryz.ntmps60
 go_wp2_with fail
 rw [← HE.out]
 clear HE
 refine (is_any' ⟨#[116, 121, 112, 101]⟩ HH.out.ws).mono ?_
 rintro e w1 ⟨rfl, hS1, hg1⟩
 have hH1 := HH.out.call hS1 hg1
 have HI1 := Lib.hid hH1
 clear hS1 hg1 hH1 HH
 go_upto_if 7 with fail
 go_cut [] (fun wx => Hid (HW w wx b (typW ws).2.1 (typW ws).2.2 0 (typW ws).1 0 0 0))
 case first =>
  cases hI : isW wType ws with
  | some r =>
    have hI' : isW (⟨#[116, 121, 112, 101]⟩ : ByteArray).data.toList ws = some r := hI
    have ht : typW ws = numW 8 r false := by unfold typW; rw [hI]
    have HT := Lib.hid ht
    have HH1 : Hid (HW w w1 b r false 0 0 0 0 0) := by
     have := HI1.out
     rw [hI'] at this
     exact this
    clear hI ht HI1
    rw [hI']
    go_wp2_with fail
    refine (number_any' (B := 8) (.inl rfl) HH1.out.nerr HH1.out.ws).mono ?_
    rintro e w2 ⟨rfl, hS2, hg2⟩
    have hH2 := HH1.out.call hS2 hg2
    have HH2 := Lib.hid hH2
    have hlt := numW_lt 8 r false
    have hwr : IntKind.u8.wrap ((numW 8 r false).1 : Int) = ((numW 8 r false).1 : Int) := by rw [IntKind.wrap_u8']; omega
    have hf : w2.frozen? ⟨w.heap.size + 1, 1, none⟩ = false := free_blk hH2.box
    have hc : w2.cell? ⟨w.heap.size + 1, 1, none⟩ = some (.int .u8 0) := cell_blk hH2.box rfl
    clear hH2 hS2 hg2
    go_wp2_with fail
    go_meet
    rw [HT.out]
    exact HH2.out.put 1 _ rfl
  | none =>
    have hI' : isW (⟨#[116, 121, 112, 101]⟩ : ByteArray).data.toList ws = none := hI
    obtain ⟨x, r, rfl⟩ : ∃ x r, ws = x :: r := by
     cases ws with
     | nil => exact absurd hk (by decide)
     | cons x r => exact ⟨x, r, rfl⟩
    have hkx : kindB x = true := by
     have hx : x ≠ wType := fun e => by subst e; rw [isW_some] at hI; cases hI
     simp only [List.headD_cons, Bool.or_eq_true, beq_iff_eq] at hk
     exact hk.resolve_left hx
    have ht : typW (x :: r) = (kindI x, r, false) := by unfold typW; rw [hI]; rfl
    have HT := Lib.hid ht
    have HH1 : Hid (HW w w1 b (x :: r) false 0 0 0 0 0) := by
     have := HI1.out
     rw [hI'] at this
     exact this
    have hki := kindI_lt x
    obtain ⟨g, o, c, hS⟩ := HH1.out.ws
    obtain ⟨X, hX⟩ : ∃ X : ByteArray, X = ⟨x.toArray⟩ := ⟨_, rfl⟩
    have hxl : X.data.toList = x := by rw [hX]
    have hkX : kindB X.data.toList = true := by rw [hxl]; exact hkx
    have HK := Lib.hid hkX
    have HXL := Lib.hid hxl
    have cx : w1.cell? ⟨g, o, none⟩ = some (.string X) := by rw [hX]; exact hS.rd 0 x rfl
    have c0 : w1.cell? ⟨b, 0, none⟩ = some (.slice (some ⟨g, o, none⟩) (r.length + 1) c) := cell_blk hS.blk rfl
    have HS := Lib.hid hS
    have hkf : ∀ W : World, Below w1.heap.size w1 W → W.frozen? ⟨w.heap.size + 1, 1, none⟩ = false := fun W hb => free_blk (keepB hb HH1.out.box)
    have hkc : ∀ W : World, Below w1.heap.size w1 W → W.cell? ⟨w.heap.size + 1, 1, none⟩ = some (.int .u8 0) := fun W hb => cell_blk (keepB hb HH1.out.box) rfl
    have HKF := Lib.hid hkf
    have HKC := Lib.hid hkc
    have HC0 := Lib.hid c0
    have HCX := Lib.hid cx
    have hmx : max (0 : Int) (kindI X.data.toList : Int) = kindI X.data.toList := by omega
    have hwr : IntKind.u8.wrap ((kindI X.data.toList : Nat) : Int) = ((kindI X.data.toList : Nat) : Int) := by rw [hxl, IntKind.wrap_u8']; omega
    have h0k : (0 : Int) ≤ (kindI X.data.toList : Int) := by omega
    clear hI ht HI1 hS hX hxl hkX hkx hki hkf hkc c0 cx
    rw [hI']
    go_wp2_with fail
    refine start_ (n := 12) (S := fun w' => w'.cell? ⟨b, 0, none⟩ = some (.slice (some ⟨g, o, none⟩) (r.length + 1) c) ∧ w'.cell? ⟨g, o, none⟩ = some (.string X) ∧ Hid (Below w1.heap.size w1 w')) (ds := [11]) (bM 12 0) (by kernel_rfl) rfl rfl (⟨HC0.out, HCX.out, Lib.hid (Below.refl _ _).drew⟩) (fun hHeld => ?_)
    refine pu_ 1 13 ?_ (bM 12 2) rfl rfl (by kernel_rfl) (.inl ⟨by rfl, ?_⟩) ?_ ?_ ?_; rotate_left
    · intro w'; go_simp; with_reducible rfl
    rotate_left
    · simp only [pA_, i64_w]; rfl
    refine pu_ 2 14 ?_ (bM 12 6) rfl rfl (by kernel_rfl) (.inl ⟨by rfl, ?_⟩) ?_ ?_ ?_; rotate_left
    · intro w'; go_simp; with_reducible rfl
    rotate_left
    · simp only [pA_, i64_w]; rfl
    refine pu_ 3 15 ?_ (bM 12 14) rfl rfl (by kernel_rfl) (.inl ⟨by rfl, ?_⟩) ?_ ?_ ?_; rotate_left
    · intro w'; go_simp; with_reducible rfl
    rotate_left
    · simp only [pA_, i64_w]; rfl
    refine tk_ 4 16 ?_ (bM 12 30) rfl rfl (by kernel_rfl) (.inl ⟨by rfl, ?_⟩) hHeld ?_ ?_ ?_; rotate_left
    · rintro w' ⟨s0, s1, s2⟩; go_simp; with_reducible rfl
    rotate_left
    · simp only [pA_, i64_w]; rfl
    refine pu_ 5 17 ?_ (bM 12 62) rfl rfl (by kernel_rfl) (.inl ⟨by rfl, ?_⟩) ?_ ?_ ?_; rotate_left
    · intro w'; go_simp; with_reducible rfl
    rotate_left
    · simp only [pA_, i64_w]; rfl
    refine tk_ 6 18 ?_ (bM 12 126) rfl rfl (by kernel_rfl) (.inl ⟨by rfl, ?_⟩) hHeld ?_ ?_ ?_; rotate_left
    · rintro w' ⟨s0, s1, s2⟩; go_simp; with_reducible rfl
    rotate_left
    · simp only [pA_, i64_w]; rfl
    refine one_ (i := 0) (N := some 12) (bM 12 127) rfl rfl (by kernel_rfl) (by decide) (fun K hK => ?_)
    refine goes_ Tryz.func59 (by kernel_rfl) rfl #[] (by rfl) rfl rfl (by simp only [List.map_toArray, List.map_nil]) ?_
    with_reducible refine (kinds_any _).mono ?_
    rintro e w2 ⟨rfl, hw2⟩
    refine ⟨_, rfl, ?_⟩
    have hb2 : Below w1.drew.heap.size w1.drew w2 := by rw [hw2]; exact (Below.refl _ _).alloc (Nat.le_refl _) _
    have hKA : KindsAt w2 w1.drew.heap.size := by rw [hw2]; exact KindsAt.new _
    have HKA := Lib.hid hKA
    have HB2 := Lib.hid hb2
    clear hw2 hb2 hKA
    refine hK.out _ _ (⟨keepA HB2.out hHeld.1, keepA HB2.out hHeld.2.1, Lib.hid (belowT hHeld.2.2.out HB2.out)⟩) (fun hHeld => ?_)
    clear hK K
    refine norm_ (a' := ?_) ?_ ?_
    rotate_left
    · show Act.put _ (some 12) _ = _
      simp only [pA_, i64_w]
      rfl
    refine one_ (i := 7) (N := some 19) (bM 12 255) rfl rfl (by kernel_rfl) (by decide) (fun K hK => ?_)
    refine goes_ Tryz.func96 (by kernel_rfl) rfl #[.slice (some ⟨w1.drew.heap.size, 0, none⟩) 4 4, .string X] (by rfl) rfl rfl (by simp only [List.map_toArray, List.map_cons, List.map_nil]; rfl) ?_
    with_reducible refine (kindIdx_any HK.out HKA.out).mono ?_
    rintro e w3 ⟨rfl, hw3⟩
    refine ⟨_, rfl, ?_⟩
    subst hw3
    refine hK.out _ _ (hHeld) (fun hHeld => ?_)
    clear hK K
    refine norm_ (a' := ?_) ?_ ?_
    rotate_left
    · show Act.put _ (some 19) _ = _
      simp only [pA_, i64_w]
      rfl
    refine pu_ 8 20 ?_ (bM 12 511) rfl rfl (by kernel_rfl) (.inl ⟨by rfl, ?_⟩) ?_ ?_ ?_; rotate_left
    · intro w'; go_simp; with_reducible rfl
    rotate_left
    · simp only [pA_, i64_w]; rfl
    refine pu_ 9 21 ?_ (bM 12 1023) rfl rfl (by kernel_rfl) (.inl ⟨by rfl, ?_⟩) ?_ ?_ ?_; rotate_left
    · intro w'; go_simp; with_reducible rfl
    rotate_left
    · simp only [pA_, i64_w]; rfl
    refine pu_ 10 22 ?_ (bM 12 2047) rfl rfl (by kernel_rfl) (.inl ⟨by rfl, ?_⟩) ?_ ?_ ?_; rotate_left
    · intro w'; go_simp; with_reducible rfl
    rotate_left
    · simp only [pA_, i64_w]; rfl
    refine last_ (i := 11) (N := none) (bM 12 4095) rfl rfl (by kernel_rfl) (by decide) (fun K hK => ?_)
    have hkf := HKF.out _ hHeld.2.2.out
    have hkc := HKC.out _ hHeld.2.2.out
    refine skip_ (w1 := ?_) (by rfl) rfl ?_ ?_
    rotate_left
    · go_simp
      rfl
    refine hK.out _ _ ?_
    clear hK K
    refine done_ (by kernel_rfl) ?_
    have hH4 := (HH1.out.next hHeld.2.2.out).put 1 (.int .u8 (kindI X.data.toList)) (ver' := 0) (ty' := kindI X.data.toList) (fl' := 0) (st' := 0) (ln' := 0) rfl
    obtain ⟨w4, hw4⟩ : ∃ w4, w4 = w3.setCell ⟨w.heap.size + 1, 1, none⟩ (.int .u8 (kindI X.data.toList)) := ⟨_, rfl⟩
    rw [← hw4] at hH4
    rw [← hw4]
    obtain ⟨g, o, c, hS⟩ := hH4.ws
    have hcap := hS.cap
    have hmax := hS.max
    simp only [List.length_cons] at hcap
    have c0 : w4.cell? ⟨b, 0, none⟩ = some (.slice (some ⟨g, o, none⟩) (r.length + 1) c) := cell_blk hS.blk rfl
    have f0 : w4.frozen? ⟨b, 0, none⟩ = false := free_blk hS.blk
    have HH4 := Lib.hid hH4
    have HS4 := Lib.hid hS
    clear hw4 hH4 hS hHeld HKA HB2 HC0 HCX HKF HKC
    by_cases hc1 : c = 1
    · have hd := HS4.out.drop.1 hc1
      have hr0 : r.length = 0 := by omega
      rw [hr0] at hd
      have HD := Lib.hid hd
      subst hc1
      clear hd
      go_wp2_with fail
      go_meet
      rw [HT.out, ← HXL.out]
      exact HH4.out.call ⟨g, _, _, HD.out⟩ (grown_set _ _ _ _)
    · have hd := HS4.out.drop.2 hc1
      have HD := Lib.hid hd
      clear hd
      go_wp2_with fail
      go_meet
      rw [HT.out, ← HXL.out]
      exact HH4.out.call ⟨g, _, _, HD.out⟩ (grown_set _ _ _ _)
 case rest =>
 have HHa := Lib.hid hcut.out
 clear hcut
 obtain ⟨a1, ha1⟩ : ∃ a1, a1 = (typW ws).1 := ⟨_, rfl⟩
 obtain ⟨a2, ha2⟩ : ∃ a2, a2 = (typW ws).2.1 := ⟨_, rfl⟩
 obtain ⟨a3, ha3⟩ : ∃ a3, a3 = (typW ws).2.2 := ⟨_, rfl⟩
 have HHa' : Hid (HW w wc b a2 a3 0 a1 0 0 0) := by rw [ha1, ha2, ha3]; exact HHa
 have HA1 := Lib.hid ha1
 have HA2 := Lib.hid ha2
 have HA3 := Lib.hid ha3
 clear ha1 ha2 ha3 HHa HI1
 rename World => wa
 go_wp2_with fail
 refine (is_any' ⟨#[118, 101, 114, 115, 105, 111, 110]⟩ HHa'.out.ws).mono ?_
 rintro e w1 ⟨rfl, hS1, hg1⟩
 have hH1 := HHa'.out.call hS1 hg1
 have HI1 := Lib.hid hH1
 clear hS1 hg1 hH1 HHa'
 go_upto_if 32 with fail
 go_cut [] (fun wx => Hid (HW w wx b (optW wVer 8 a2 a3).2.1 (optW wVer 8 a2 a3).2.2 (optW wVer 8 a2 a3).1 a1 0 0 0))
 case first =>
  cases hI : isW wVer a2 with
  | some r =>
    have hI' : isW (⟨#[118, 101, 114, 115, 105, 111, 110]⟩ : ByteArray).data.toList a2 = some r := hI
    have ht : optW wVer 8 a2 a3 = numW 8 r a3 := by unfold optW; rw [hI]
    have HT := Lib.hid ht
    have HH1 : Hid (HW w w1 b r a3 0 a1 0 0 0) := by
     have := HI1.out
     rw [hI'] at this
     exact this
    clear hI ht HI1
    rw [hI']
    go_wp2_with fail
    refine (number_any' (B := 8) (.inl rfl) HH1.out.nerr HH1.out.ws).mono ?_
    rintro e w2 ⟨rfl, hS2, hg2⟩
    have hH2 := HH1.out.call hS2 hg2
    have HH2 := Lib.hid hH2
    have hlt := numW_lt 8 r a3
    have hwr : IntKind.u8.wrap ((numW 8 r a3).1 : Int) = ((numW 8 r a3).1 : Int) := by rw [IntKind.wrap_u8']; omega
    have hf : w2.frozen? ⟨w.heap.size + 1, 0, none⟩ = false := free_blk hH2.box
    have hc : w2.cell? ⟨w.heap.size + 1, 0, none⟩ = some (.int .u8 0) := cell_blk hH2.box rfl
    clear hH2 hS2 hg2
    go_wp2_with fail
    go_meet
    rw [HT.out]
    exact HH2.out.put 0 _ rfl
  | none =>
    have hI' : isW (⟨#[118, 101, 114, 115, 105, 111, 110]⟩ : ByteArray).data.toList a2 = none := hI
    have ht : optW wVer 8 a2 a3 = (0, a2, a3) := by unfold optW; rw [hI]
    have HT := Lib.hid ht
    have HH1 : Hid (HW w w1 b a2 a3 0 a1 0 0 0) := by
     have := HI1.out
     rw [hI'] at this
     exact this
    clear hI ht HI1
    rw [hI']
    go_wp2_with fail
    go_meet
    rw [HT.out]
    exact HH1.out
 case rest =>
 have HHb := Lib.hid hcut.out
 clear hcut HI1
 obtain ⟨b1, hb1⟩ : ∃ b1, b1 = (optW wVer 8 a2 a3).1 := ⟨_, rfl⟩
 obtain ⟨b2, hb2⟩ : ∃ b2, b2 = (optW wVer 8 a2 a3).2.1 := ⟨_, rfl⟩
 obtain ⟨b3, hb3⟩ : ∃ b3, b3 = (optW wVer 8 a2 a3).2.2 := ⟨_, rfl⟩
 have HHb' : Hid (HW w wc b b2 b3 b1 a1 0 0 0) := by rw [hb1, hb2, hb3]; exact HHb
 have HB1 := Lib.hid hb1
 have HB2 := Lib.hid hb2
 have HB3 := Lib.hid hb3
 clear hb1 hb2 hb3 HHb
 rename World => wb
 have hzb := HHb'.out.sz
 have hbl := HHb'.out.lt
 go_wp2_with fail
 go_loopw [39] (fun i wr => ∃ k : Nat, k ≤ 4 ∧ i = .int .i64 k ∧ Hid (HW w wr b (flagsW k b2).2 b3 b1 a1 (flagsW k b2).1 0 0 ∧ FlAt wr wb.heap.size)) (fun i _ => 4 - (intOf i).toNat)
 case atStart => exact ⟨0, by omega, rfl, HHb'.out.next ba_, FlAt.new _⟩
 case round =>
  obtain ⟨k, hk4, rfl, HR⟩ := hrel
  by_cases hlt : k < 4
  · have hlt' : (k : Int) < 4 := by omega
    have hck := HR.out.2 k hlt
    go_wp2_with fail
    refine (is_any' (flW k) HR.out.1.ws).mono ?_
    rintro e w1 ⟨rfl, hS1, hg1⟩
    have hH1 := HR.out.1.call hS1 hg1
    have HF1 := Lib.hid (HR.out.2.grown hg1 (by omega))
    rw [lsW_flagk] at hH1
    cases hI : isW (wFlag k) (flagsW k b2).2 with
    | some r =>
      rw [hI] at hH1
      have hI' : isW (flW k).data.toList (flagsW k b2).2 = some r := by rw [lsW_flagk]; exact hI
      have ht : flagsW (k + 1) b2 = ((flagsW k b2).1 + 2 ^ k, r) := by rw [flagsW, hI]
      have HT := Lib.hid ht
      have hfl := flagsW_lt b2 k
      obtain ⟨f, hf⟩ : ∃ f, f = (flagsW k b2).1 := ⟨_, rfl⟩
      rw [← hf] at hH1 hfl ht
      have HTF := Lib.hid ht
      have HH1 := Lib.hid hH1
      have hcell : w1.cell? ⟨w.heap.size + 1, 2, none⟩ = some (.int .u16 f) := cell_blk hH1.box rfl
      have hfree : w1.frozen? ⟨w.heap.size + 1, 2, none⟩ = false := free_blk hH1.box
      have HOR := Lib.hid (or_flag' k f hlt hfl)
      clear hI ht hH1 hS1 hg1 hck HT hf
      rw [hI']
      clear hI'
      obtain rfl | rfl | rfl | rfl : k = 0 ∨ k = 1 ∨ k = 2 ∨ k = 3 := by omega
      · go_wp2_with fail
        go_region
        all_goals
         go_wp2_with fail
         go_roundw
         case rel => exact ⟨1, by omega, by go_num, by rw [HTF.out]; exact (HH1.out.put 2 _ (by rw [show bits .or .u16 (f : Int) 1 = ((f + 2 ^ 0 : Nat) : Int) from HOR.out]; rfl)).next (Below.refl _ _).drew, (HF1.out.grown (grown_set _ _ _ _) (by omega)).next (Below.refl _ _).drew⟩
         case measure => simp [intOf]
      · go_wp2_with fail
        go_region
        all_goals
         go_wp2_with fail
         go_roundw
         case rel => exact ⟨2, by omega, by go_num, by rw [HTF.out]; exact (HH1.out.put 2 _ (by rw [show bits .or .u16 (f : Int) 2 = ((f + 2 ^ 1 : Nat) : Int) from HOR.out]; rfl)).next (Below.refl _ _).drew, (HF1.out.grown (grown_set _ _ _ _) (by omega)).next (Below.refl _ _).drew⟩
         case measure => simp [intOf]
      · go_wp2_with fail
        go_region
        all_goals
         go_wp2_with fail
         go_roundw
         case rel => exact ⟨3, by omega, by go_num, by rw [HTF.out]; exact (HH1.out.put 2 _ (by rw [show bits .or .u16 (f : Int) 4 = ((f + 2 ^ 2 : Nat) : Int) from HOR.out]; rfl)).next (Below.refl _ _).drew, (HF1.out.grown (grown_set _ _ _ _) (by omega)).next (Below.refl _ _).drew⟩
         case measure => simp [intOf]
      · go_wp2_with fail
        go_region
        all_goals
         go_wp2_with fail
         go_roundw
         case rel => exact ⟨4, by omega, by go_num, by rw [HTF.out]; exact (HH1.out.put 2 _ (by rw [show bits .or .u16 (f : Int) 8 = ((f + 2 ^ 3 : Nat) : Int) from HOR.out]; rfl)).next (Below.refl _ _).drew, (HF1.out.grown (grown_set _ _ _ _) (by omega)).next (Below.refl _ _).drew⟩
         case measure => simp [intOf]
    | none =>
      rw [hI] at hH1
      have hI' : isW (flW k).data.toList (flagsW k b2).2 = none := by rw [lsW_flagk]; exact hI
      have ht : flagsW (k + 1) b2 = flagsW k b2 := by rw [flagsW, hI]
      have HT := Lib.hid ht
      have HH1 := Lib.hid hH1
      clear hI ht hH1 hS1 hg1 hck
      rw [hI']
      go_wp2_with fail
      go_roundw
      case rel => exact ⟨k + 1, by omega, by go_num, by rw [HT.out]; exact HH1.out, HF1.out⟩
      case measure => simp [intOf]; omega
  · obtain rfl : k = 4 := by omega
    obtain ⟨c1, hc1⟩ : ∃ c1, c1 = (flagsW 4 b2).1 := ⟨_, rfl⟩
    obtain ⟨c2, hc2⟩ : ∃ c2, c2 = (flagsW 4 b2).2 := ⟨_, rfl⟩
    have hc16 : c1 < 16 := by rw [hc1]; exact flagsW_lt b2 4
    have HHc : Hid (HW w wr b c2 b3 b1 a1 c1 0 0) := by rw [hc1, hc2]; exact HR.out.1
    have HC1 := Lib.hid hc1
    have HC2 := Lib.hid hc2
    clear hc1 hc2 HR HHb' hzb
    go_wp2_with fail
    refine (is_any' ⟨#[102, 108, 97, 103, 115]⟩ HHc.out.ws).mono ?_
    rintro e w1 ⟨rfl, hS1, hg1⟩
    have hH1 := HHc.out.call hS1 hg1
    have HI1 := Lib.hid hH1
    clear hS1 hg1 hH1 HHc
    go_upto_if 55 with fail
    go_cut [] (fun wx => Hid (HW w wx b (optW wFlags 16 c2 b3).2.1 (optW wFlags 16 c2 b3).2.2 b1 a1 ((c1 ||| (optW wFlags 16 c2 b3).1 : Nat) : Int) 0 0))
    case first =>
     cases hI : isW wFlags c2 with
     | some r =>
       have hI' : isW (⟨#[102, 108, 97, 103, 115]⟩ : ByteArray).data.toList c2 = some r := hI
       have ht : optW wFlags 16 c2 b3 = numW 16 r b3 := by unfold optW; rw [hI]
       have HT := Lib.hid ht
       have HH1 : Hid (HW w w1 b r b3 b1 a1 c1 0 0) := by
        have := HI1.out
        rw [hI'] at this
        exact this
       clear hI ht HI1
       rw [hI']
       have hlt := numW_lt 16 r b3
       obtain ⟨n, hn⟩ : ∃ n, n = (numW 16 r b3).1 := ⟨_, rfl⟩
       rw [← hn] at hlt
       have HN := Lib.hid hn
       have hwr : IntKind.u16.wrap (n : Int) = (n : Int) := by rw [IntKind.wrap_u16]; omega
       have HOR := Lib.hid (u16_or_nat c1 n (by omega) (by omega))
       have hbne : w.heap.size + 1 ≠ b := by omega
       have HC : Hid (w1.cell? ⟨w.heap.size + 1, 2, none⟩ = some (.int .u16 c1)) := cell_blk HH1.out.box rfl
       clear hn hI'
       go_wp2_with fail
       refine start_ (n := 8) (S := fun w' => w'.cell? ⟨w.heap.size + 1, 2, none⟩ = some (.int .u16 c1) ∧ Hid (HW w w' b r b3 b1 a1 c1 0 0 ∨ HW w w' b (numW 16 r b3).2.1 (numW 16 r b3).2.2 b1 a1 c1 0 0)) (ds := [7]) (bM 8 0) (by kernel_rfl) rfl rfl (⟨HC.out, Lib.hid (.inl (HH1.out.next (Below.refl _ _).drew))⟩) (fun hHeld => ?_)
       refine pu_ 0 56 ?_ (bM 8 1) rfl rfl (by kernel_rfl) (.inl ⟨by rfl, ?_⟩) ?_ ?_ ?_; rotate_left
       · intro w'; go_simp; with_reducible rfl
       rotate_left
       · simp only [pA_, i64_w]; rfl
       refine pu_ 2 58 ?_ (bM 8 5) rfl rfl (by kernel_rfl) (.inl ⟨by rfl, ?_⟩) ?_ ?_ ?_; rotate_left
       · intro w'; go_simp; with_reducible rfl
       rotate_left
       · simp only [pA_, i64_w]; rfl
       refine tk_ 1 57 ?_ (bM 8 7) rfl rfl (by kernel_rfl) (.inl ⟨by rfl, ?_⟩) hHeld ?_ ?_ ?_; rotate_left
       · rintro w' ⟨s0, s1⟩; go_simp; with_reducible rfl
       rotate_left
       · simp only [pA_, i64_w]; rfl
       refine one_ (i := 3) (N := some 59) (bM 8 15) rfl rfl (by kernel_rfl) (by decide) (fun K hK => ?_)
       refine goes_ Tryz.func98 (by kernel_rfl) rfl #[.pointer (some ⟨b, 0, none⟩), .int .i64 16] (by rfl) rfl rfl (by simp only [List.map_toArray, List.map_cons, List.map_nil]; rfl) ?_
       with_reducible refine (number16 (HH1.out.next (Below.refl _ _).drew).nerr (HH1.out.next (Below.refl _ _).drew).ws).mono ?_
       rintro e w2 ⟨rfl, hS2, hg2⟩
       refine ⟨_, rfl, ?_⟩
       have hH2 := (HH1.out.next (Below.refl _ _).drew).call hS2 hg2
       have HH2 := Lib.hid hH2
       have hcc : w2.cell? ⟨w.heap.size + 1, 2, none⟩ = some (.int .u16 c1) := cell_blk hH2.box rfl
       have hff : w2.frozen? ⟨w.heap.size + 1, 2, none⟩ = false := free_blk hH2.box
       clear hH2 hS2 hg2
       rw [← HN.out]
       refine hK.out _ _ (⟨hcc, Lib.hid (.inr HH2.out)⟩) (fun hHeld => ?_)
       clear hK K
       refine norm_ (a' := ?_) ?_ ?_
       rotate_left
       · show Act.put _ (some 59) _ = _
         simp only [pA_, i64_w]
         rfl
       refine pu_ 4 60 ?_ (bM 8 31) rfl rfl (by kernel_rfl) (.inl ⟨by rfl, ?_⟩) ?_ ?_ ?_; rotate_left
       · intro w'; go_simp; with_reducible rfl
       rotate_left
       · simp only [pA_, i64_w]; rfl
       refine pu_ 5 61 ?_ (bM 8 63) rfl rfl (by kernel_rfl) (.inl ⟨by rfl, ?_⟩) ?_ ?_ ?_; rotate_left
       · intro w'; go_simp; with_reducible rfl
       rotate_left
       · simp only [pA_, i64_w]; rfl
       refine pu_ 6 62 ?_ (bM 8 127) rfl rfl (by kernel_rfl) (.inl ⟨by rfl, ?_⟩) ?_ ?_ ?_; rotate_left
       · intro w'; go_simp; with_reducible rfl
       rotate_left
       · simp only [pA_, i64_w]; rfl
       refine last_ (i := 7) (N := none) (bM 8 255) rfl rfl (by kernel_rfl) (by decide) (fun K hK => ?_)
       refine skip_ (w1 := ?_) (by rfl) rfl ?_ ?_
       rotate_left
       · go_simp
         rfl
       refine hK.out _ _ ?_
       clear hK K
       refine done_ (by kernel_rfl) ?_
       go_wp2_with fail
       go_meet
       rw [HT.out, ← HN.out]
       exact HH2.out.put 2 _ (by rw [HOR.out]; rfl)
     | none =>
       have hI' : isW (⟨#[102, 108, 97, 103, 115]⟩ : ByteArray).data.toList c2 = none := hI
       have ht : optW wFlags 16 c2 b3 = (0, c2, b3) := by unfold optW; rw [hI]
       have HT := Lib.hid ht
       have HH1 : Hid (HW w w1 b c2 b3 b1 a1 c1 0 0) := by
        have := HI1.out
        rw [hI'] at this
        exact this
       clear hI ht HI1
       rw [hI']
       go_wp2_with fail
       go_meet
       rw [HT.out]
       simp only [Nat.or_zero]
       exact HH1.out
    case rest =>
    have HHd := Lib.hid hcut.out
    clear hcut HI1
    obtain ⟨d0, hd0⟩ : ∃ d0, d0 = (c1 ||| (optW wFlags 16 c2 b3).1) := ⟨_, rfl⟩
    obtain ⟨d2, hd2⟩ : ∃ d2, d2 = (optW wFlags 16 c2 b3).2.1 := ⟨_, rfl⟩
    obtain ⟨d3, hd3⟩ : ∃ d3, d3 = (optW wFlags 16 c2 b3).2.2 := ⟨_, rfl⟩
    have HHd' : Hid (HW w wc b d2 d3 b1 a1 d0 0 0) := by rw [hd0, hd2, hd3]; exact HHd
    have HD0 := Lib.hid hd0
    have HD2 := Lib.hid hd2
    have HD3 := Lib.hid hd3
    clear hd0 hd2 hd3 HHd
    rename World => wd
    go_wp2_with fail
    refine (after_any' (B := 32) ⟨#[115, 116, 114, 101, 97, 109]⟩ (.inr (.inr rfl)) HHd'.out.nerr HHd'.out.ws).mono ?_
    rintro e w2 ⟨rfl, hS2, hg2⟩
    have hlt : (aftW wStream 32 d2 d3).1 < 2 ^ 32 := aftW_lt _ 32 _ _
    have hH2 : HW w w2 b (aftW wStream 32 d2 d3).2.1 (aftW wStream 32 d2 d3).2.2 b1 a1 d0 0 0 := HHd'.out.call hS2 hg2
    obtain ⟨e1, he1⟩ : ∃ e1, e1 = (aftW wStream 32 d2 d3).1 := ⟨_, rfl⟩
    obtain ⟨e2, he2⟩ : ∃ e2, e2 = (aftW wStream 32 d2 d3).2.1 := ⟨_, rfl⟩
    obtain ⟨e3, he3⟩ : ∃ e3, e3 = (aftW wStream 32 d2 d3).2.2 := ⟨_, rfl⟩
    have hq : (aftW (⟨#[115, 116, 114, 101, 97, 109]⟩ : ByteArray).data.toList 32 d2 d3).1 = e1 := he1.symm
    rw [← he1] at hlt
    rw [← he2, ← he3] at hH2
    have hwr : IntKind.u32.wrap (e1 : Int) = (e1 : Int) := by rw [IntKind.wrap_u32']; omega
    have hf : w2.frozen? ⟨w.heap.size + 1, 3, none⟩ = false := free_blk hH2.box
    have hc : w2.cell? ⟨w.heap.size + 1, 3, none⟩ = some (.int .u32 0) := cell_blk hH2.box rfl
    have hH3 := hH2.put 3 (.int .u32 e1) (ver' := b1) (ty' := a1) (fl' := d0) (st' := e1) (ln' := 0) rfl
    have HE1 := Lib.hid he1
    have HE2 := Lib.hid he2
    have HE3 := Lib.hid he3
    have HH3 := Lib.hid hH3
    clear hH2 hH3 hS2 hg2 he1 he2 he3
    rw [hq]
    clear hq
    go_wp2_with fail
    refine (after_any' (B := 32) ⟨#[108, 101, 110, 103, 116, 104]⟩ (.inr (.inr rfl)) HH3.out.nerr HH3.out.ws).mono ?_
    rintro e w4 ⟨rfl, hS4, hg4⟩
    have hlt4 : (aftW wLength 32 e2 e3).1 < 2 ^ 32 := aftW_lt _ 32 _ _
    have hH4 : HW w w4 b (aftW wLength 32 e2 e3).2.1 (aftW wLength 32 e2 e3).2.2 b1 a1 d0 e1 0 := HH3.out.call hS4 hg4
    obtain ⟨f1, hf1⟩ : ∃ f1, f1 = (aftW wLength 32 e2 e3).1 := ⟨_, rfl⟩
    obtain ⟨f2, hf2⟩ : ∃ f2, f2 = (aftW wLength 32 e2 e3).2.1 := ⟨_, rfl⟩
    obtain ⟨f3, hf3⟩ : ∃ f3, f3 = (aftW wLength 32 e2 e3).2.2 := ⟨_, rfl⟩
    have hq : (aftW (⟨#[108, 101, 110, 103, 116, 104]⟩ : ByteArray).data.toList 32 e2 e3).1 = f1 := hf1.symm
    rw [← hf1] at hlt4
    rw [← hf2, ← hf3] at hH4
    have hwr4 : IntKind.u32.wrap (f1 : Int) = (f1 : Int) := by rw [IntKind.wrap_u32']; omega
    have hf4 : w4.frozen? ⟨w.heap.size + 1, 4, none⟩ = false := free_blk hH4.box
    have hc4 : w4.cell? ⟨w.heap.size + 1, 4, none⟩ = some (.int .u32 0) := cell_blk hH4.box rfl
    have hH5 := hH4.put 4 (.int .u32 f1) (ver' := b1) (ty' := a1) (fl' := d0) (st' := e1) (ln' := f1) rfl
    have HF1 := Lib.hid hf1
    have HF2 := Lib.hid hf2
    have HF3 := Lib.hid hf3
    have HH5 := Lib.hid hH5
    clear hH4 hH5 hS4 hg4 hf1 hf2 hf3
    rw [hq]
    clear hq hwr hf hc
    have k0 := cell_blk (j := 0) HH5.out.box rfl
    have k1 := cell_blk (j := 1) HH5.out.box rfl
    have k2 := cell_blk (j := 2) HH5.out.box rfl
    have k3 := cell_blk (j := 3) HH5.out.box rfl
    have k4 := cell_blk (j := 4) HH5.out.box rfl
    have r0 := cell_blk (j := 0) HH5.out.res rfl
    have z0 := free_blk (j := 0) HH5.out.res
    have r1 := cell_blk (j := 1) HH5.out.res rfl
    have z1 := free_blk (j := 1) HH5.out.res
    have r2 := cell_blk (j := 2) HH5.out.res rfl
    have z2 := free_blk (j := 2) HH5.out.res
    have r3 := cell_blk (j := 3) HH5.out.res rfl
    have z3 := free_blk (j := 3) HH5.out.res
    have r4 := cell_blk (j := 4) HH5.out.res rfl
    have z4 := free_blk (j := 4) HH5.out.res
    go_wp2_with fail
    have hR0 := res_step ⟨HH5.out.ws, HH5.out.gr⟩ HH5.out.lt 0 (.int .u8 b1)
    have hR1 := res_step hR0 HH5.out.lt 1 (.int .u8 a1)
    have hR2 := res_step hR1 HH5.out.lt 2 (.int .u16 d0)
    have hR3 := res_step hR2 HH5.out.lt 3 (.int .u32 e1)
    have hR4 := res_step hR3 HH5.out.lt 4 (.int .u32 f1)
    have t0 := set_blk (j := 0) (.int .u8 b1) HH5.out.res
    have t1 := set_blk (j := 1) (.int .u8 a1) t0
    have t2 := set_blk (j := 2) (.int .u16 d0) t1
    have t3 := set_blk (j := 3) (.int .u32 e1) t2
    have t4 := set_blk (j := 4) (.int .u32 f1) t3
    clear hR0 hR1 hR2 hR3 t0 t1 t2 t3 r0 r1 r2 r3 r4 z0 z1 z2 z3 z4 k0 k1 k2 k3 k4
    generalize ((((((w4.setCell ⟨w.heap.size + 1, 4, none⟩ (.int .u32 f1)).setCell ⟨w.heap.size, 0, none⟩ (.int .u8 b1)).setCell ⟨w.heap.size, 1, none⟩ (.int .u8 a1)).setCell ⟨w.heap.size, 2, none⟩ (.int .u16 d0)).setCell ⟨w.heap.size, 3, none⟩ (.int .u32 e1)).setCell ⟨w.heap.size, 4, none⟩ (.int .u32 f1)) = w5 at *
    have q0 : w5.cell? ⟨w.heap.size, 0, none⟩ = some (.int .u8 b1) := cell_blk t4 rfl
    have q1 : w5.cell? ⟨w.heap.size, 1, none⟩ = some (.int .u8 a1) := cell_blk t4 rfl
    have q2 : w5.cell? ⟨w.heap.size, 2, none⟩ = some (.int .u16 d0) := cell_blk t4 rfl
    have q3 : w5.cell? ⟨w.heap.size, 3, none⟩ = some (.int .u32 e1) := cell_blk t4 rfl
    have q4 : w5.cell? ⟨w.heap.size, 4, none⟩ = some (.int .u32 f1) := cell_blk t4 rfl
    have hfin : hdrW ws = (⟨b1, a1, d0, e1, f1⟩, f2, f3) := by
     unfold hdrW
     simp only [← HA1.out, ← HA2.out, ← HA3.out]
     simp only [← HB1.out, ← HB2.out, ← HB3.out]
     simp only [← HC1.out, ← HC2.out]
     simp only [← HD0.out, ← HD2.out, ← HD3.out]
     simp only [← HE1.out, ← HE2.out, ← HE3.out]
     simp only [← HF1.out, ← HF2.out, ← HF3.out]
    rw [hfin]
    exact bodyPost_ret (v := .agg #[.int .u8 b1, .int .u8 a1, .int .u16 d0, .int .u32 e1, .int .u32 f1]) (by simp [results, Tryz.results60, go_sem, q0, q1, q2, q3, q4]) rfl ⟨rfl, hR4.1, hR4.2⟩
end Go.Proofs.YtidmgckmphcegaaGreatDoor
