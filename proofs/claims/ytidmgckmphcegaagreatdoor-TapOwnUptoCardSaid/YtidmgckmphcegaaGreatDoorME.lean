import Derived.Test.YtidmgckmphcegaaGreatDoorMS
import Derived.Test.YtidmgckmphcegaaGreatDoorMA
import Derived.Lib.ItoaMem
import Derived.Lib.AppendIntMem
import Derived.Lib.Walk
import Derived.Test.YtidmgckmphcegaaGreatDoorMB
import Derived.Deep.AppendLies
import Derived.Deep.RegionLaw
import Derived.Deep.DeepCutAuto
import Derived.Deep.LoopGhost
import Derived.Lib.ItoaLen
import Derived.Lib.LaidTab
/-
 strconv.FormatUint(n, 10): n's decimal numeral.
-/
namespace Go.Proofs.YtidmgckmphcegaaGreatDoor
open Go.RowKit Go.Sort Go.Lib
set_option linter.unusedVariables false
set_option linter.unusedSimpArgs false
def Pow10 (w : World) : Prop := Lib.TabIs Tryz.prog w "internal/strconv.uint64pow10" .u64 Lib.pow10Tab
theorem Pow10.below {w w' : World} (h : Pow10 w) (hb : Below w.heap.size w w') : Pow10 w' := Lib.tabBelow_of_tabIs h w' hb
theorem holds_zero0 (w : World) (T : TypeId) (nd : Nat) (hs : nd ≤ 24) : Holds (fun (b : UInt8) => Value.int .u8 (b.toNat : Int)) (w.alloc (.cells zeros24 T)) w.heap.size 0 (Array.replicate nd (0 : UInt8)) := fun j hj => by
 rw [Array.size_replicate] at hj
 rw [World.cell?_alloc_new, zeros24_at _ (by omega), getElem!_pos _ j (by simpa using hj)]
 simp
theorem below_put0 (w : World) (o : Obj) (dk : Array UInt8) (k : Nat) : Below w.heap.size w ((putRow (fun (b : UInt8) => Value.int .u8 (b.toNat : Int)) (w.alloc o) w.heap.size 0 dk).drewN k) := by
 rw [alloc_eq_grow]
 obtain ⟨os', _, e⟩ := putRow_grow_new (fun (b : UInt8) => Value.int .u8 (b.toNat : Int)) w #[o] w.heap.size 0 dk (Nat.le_refl _)
 rw [e]
 exact Lib.below_grow w.heap.size w (Nat.le_refl _) k os'
set_option maxHeartbeats 6400000 in
set_option maxRecDepth 100000 in
theorem formatUint (u : Nat) (hu64 : u < 18446744073709551616) (w : World) (htab : Pow10 w) :
    Calls Tryz.prog 115 #[.int .u64 u, .int .i64 10] w fun e w' => e = .returned (.string ⟨(Lib.decDigits u).toArray⟩) ∧ Below w.heap.size w w' := by
 by_cases hs : u < 100
 · go_enter Tryz.func115, Tryz.ntmps115
   go_wp2_with fail
   refine (Tryz.internal_strconv_small u hs _).mono ?_
   rintro e w' ⟨rfl, rfl⟩
   go_wp2_with fail
   go_ret
   exact ⟨rfl, Below.refl _ _⟩
 · have hu1 : 1 ≤ u := by omega
   have hnd20 : Lib.nDigits u ≤ 20 := by have := Lib.numDigits_eq u hu1 hu64; split at this <;> omega
   have hal : Tryz.prog.arrayLen 218 = 24 := by kernel_rfl
   have hsl1 : ∀ W, (Instr.sliceAt 218 (.pointer (some ⟨w.heap.size, 0, none⟩)) none (some (.int .i64 (Lib.nDigits u : Int))) none).run Tryz.prog W = .ok (.slice (some ⟨w.heap.size, 0, none⟩) (Lib.nDigits u) 24) W := by
    intro W
    rw [run_sliceAt_array_h W 218 ⟨w.heap.size, 0, none⟩ (by kernel_rfl) .i64 (Lib.nDigits u : Int) (by omega) (by rw [hal]; omega)]
    go_simp
   have hH0 := holds_zero0 w 218 (Lib.nDigits u) (by omega)
   have hfmt := Tryz.internal_strconv_formatBase10 w.heap.size 0 24 u (Array.replicate (Lib.nDigits u) 0) (w.alloc (.cells Lib.zeros24 218)) hH0 (by rw [Array.size_replicate]; exact Lib.lt_pow_nDigits _) hu64 (by rw [Array.size_replicate]; omega)
   rw [Array.size_replicate] at hfmt
   have HH0 := Lib.hid hH0
   have HF := Lib.hid hfmt
   clear hH0 hal hfmt
   go_enter Tryz.func115, Tryz.ntmps115
   go_wp2_with fail
   refine (Tryz.internal_strconv_numDigits u hu1 hu64 _ (Lib.tabIs_alloc htab _)).mono ?_
   rintro e w' ⟨rfl, rfl⟩
   go_wp2_with fail
   refine HF.out.mono ?_
   rintro e w' ⟨rfl, k, v', dk, rfl, hF⟩
   have hcv : (convert 26 9 (.slice (some ⟨w.heap.size, 0, none⟩) (Lib.nDigits u) 24)).run Tryz.prog ((putRow (fun (b : UInt8) => Value.int .u8 (b.toNat : Int)) (w.alloc (.cells Lib.zeros24 218)) w.heap.size 0 dk).drewN k) = .ok (.string ⟨(Lib.decDigits u).toArray⟩) ((putRow (fun (b : UInt8) => Value.int .u8 (b.toNat : Int)) (w.alloc (.cells Lib.zeros24 218)) w.heap.size 0 dk).drewN k) := by
    have h := run_convert_bytes_back (P := Tryz.prog) ((putRow (fun (b : UInt8) => Value.int .u8 (b.toNat : Int)) (w.alloc (.cells Lib.zeros24 218)) w.heap.size 0 dk).drewN k) 26 9 5 ⟨w.heap.size, 0, none⟩ 24 (Lib.decDigits u) Tryz.underlying26 Tryz.underlying5 Tryz.underlying9 (fun j hj => by
     rw [Lib.row_is_numeral hF j hj, Lib.add_plain, World.cell?_drewN]
     exact cell?_putRow (fun (b : UInt8) => Value.int .u8 (b.toNat : Int)) _ w.heap.size 0 _ dk HH0.out (by rw [hF.size, Array.size_replicate]) j (by rw [hF.size]; rw [Lib.decDigits_length] at hj; exact hj))
    rw [Lib.decDigits_length] at h
    exact h
   go_wp2
   go_ret
   exact ⟨rfl, below_put0 _ _ _ _⟩
set_option maxRecDepth 100000 in
theorem fmtUint (u : Nat) (hu64 : u < 18446744073709551616) (w : World) (htab : Pow10 w) :
    Calls Tryz.prog 77 #[.int .u64 u, .int .i64 10] w fun e w' => e = .returned (.string ⟨(Lib.decDigits u).toArray⟩) ∧ Below w.heap.size w w' := by
 go_enter Tryz.func77, Tryz.ntmps77
 go_wp2_with fail
 refine (formatUint u hu64 w htab).mono ?_
 rintro e w' ⟨rfl, hb⟩
 go_wp2_with fail
 go_ret
 exact ⟨rfl, hb⟩
end Go.Proofs.YtidmgckmphcegaaGreatDoor
/-
 frame.Text: the header in words.
-/
namespace Go.Proofs.YtidmgckmphcegaaGreatDoor
open Go.RowKit
set_option linter.unusedVariables false
set_option linter.unusedSimpArgs false
def strs (xs : List ByteArray) : List Value := xs.map .string
theorem strs_app (xs ys : List ByteArray) : strs (xs ++ ys) = strs xs ++ strs ys := by simp [strs]
theorem str_info : (Tryz.prog.info? 9).map (fun i => (i.zero, i.size, i.bytes)) = some (some (.string ⟨#[]⟩), 1, 16) := by kernel_rfl
structure Say (w : World) (bx base : Nat) (v : Value) (xs : List ByteArray) : Prop where
 box : w.heap[bx]? = some (.cells #[v] 94 (0, 0))
 own : w.ownsRow base 9 1 v xs.length (strs xs)
 ne : v.ownBlock ≠ some bx
 le : base ≤ bx
theorem Say.lt {w : World} {bx base : Nat} {v : Value} {xs : List ByteArray} (h : Say w bx base v xs) : bx < w.heap.size := (Array.getElem?_eq_some_iff.1 h.box).1
theorem Say.next {w w' : World} {bx base : Nat} {v : Value} {xs : List ByteArray} (h : Say w bx base v xs) (hb : Below w.heap.size w w') : Say w' bx base v xs :=
 ⟨(hb.block _ h.lt).trans h.box, own_below h.own hb, h.ne, h.le⟩
theorem Say.cell {w : World} {bx base : Nat} {v : Value} {xs : List ByteArray} (h : Say w bx base v xs) : w.cell? ⟨bx, 0, none⟩ = some v := cell_blk h.box rfl
theorem own_set_other {w : World} {base : Nat} {e : TypeId} {g n c : Nat} {xs : List Value} {bx j : Nat} (u : Value) (hne : g ≠ bx) (h : w.ownsRow base e 1 (.slice (some ⟨g, 0, none⟩) n c) n xs) :
    (w.setCell ⟨bx, j, none⟩ u).ownsRow base e 1 (.slice (some ⟨g, 0, none⟩) n c) n xs := by
 rcases h.2 with ⟨e0, _⟩ | ⟨g', cap, cur, hv, hb, hg, hn, hm, hs, ht⟩
 · cases e0
 · obtain ⟨rfl, rfl⟩ : g = g' ∧ c = cap := by simpa using hv
   exact ⟨h.1, .inr ⟨g, c, cur, rfl, hb, (set_other u hne).trans hg, hn, hm, hs, ht⟩⟩
theorem Say.put {w w2 : World} {bx base g cap m : Nat} {v : Value} {xs ys : List ByteArray} (h : Say w bx base v xs) (hm : m = xs.length + ys.length) (ho : w2.ownsRow base 9 1 (.slice (some ⟨g, 0, none⟩) m cap) m (strs xs ++ strs ys))
    (hg : w.grownBy w2 v.ownBlock) (hat : v.ownBlock = some g ∨ g = w.heap.size) : Say (w2.setCell ⟨bx, 0, none⟩ (.slice (some ⟨g, 0, none⟩) m cap)) bx base (.slice (some ⟨g, 0, none⟩) m cap) (xs ++ ys) := by
 subst hm
 have hlt := h.lt
 have hne : g ≠ bx := by
  rcases hat with hat | hat
  · intro e; subst e; exact h.ne hat
  · omega
 have hb2 := grown_blk hg h.ne h.box
 refine ⟨?_, ?_, fun e => hne (by simpa [Value.ownBlock] using e), h.le⟩
 · rw [set_blk _ hb2]
   simp
 · have := own_set_other (j := 0) (.slice (some ⟨g, 0, none⟩) (xs.length + ys.length) cap) hne ho
   rw [List.length_append, strs_app]
   exact this
set_option maxRecDepth 100000 in
set_option maxHeartbeats 1000000 in
theorem say_any {bx base : Nat} {v : Value} {xs : List ByteArray} {word : ByteArray} {n : Nat} {w : World} (hS : Say w bx base v xs) (hn : n < 18446744073709551616) (hl : xs.length ≤ 1000) (hbase : base ≤ w.heap.size) (htab : Pow10 w) :
    Calls Tryz.prog 87 #[.string word, .int .u64 n, .pointer (some ⟨bx, 0, none⟩)] w fun e w' => e = .returned (.tuple #[]) ∧ (∃ v', Say w' bx base v' (xs ++ [word, ⟨(Lib.decDigits n).toArray⟩])) ∧ Below base w w' := by
 obtain ⟨i0, hi, hz0, hz1, hz2⟩ := info_parts str_info
 have HS := Lib.hid hS
 have HT := Lib.hid htab
 have c0 := hS.cell
 clear hS htab
 go_enter Tryz.func87, Tryz.ntmps87
 go_region_law (first
  | (go_simp; go_at_call 77; refine (fmtUint n hn _ (HT.out.below (Below.refl _ _).drew)).mono ?_; rintro e w1 ⟨rfl, hb1⟩; have HB1 := Lib.hid ((Below.refl w.heap.size w).drew.trans hb1); have HS1 := Lib.hid (HS.out.next HB1.out); have hwz := HB1.out.size; clear hb1; have c1 := HS1.out.cell; have c1a := fun o => cell?_alloc_old o HS1.out.cell)
  | (refine step_append_lies _ rfl (.tmp 5) (.tmp 9) 94 rfl base 9 i0 (.string ⟨#[]⟩) 1 16 Tryz.underlying94 hi hz0 hz1 hz2 rfl (by decide) v xs.length (strs xs) (by simp [Act.eval, Act.put]) (HS1.out.next ba_).own _ 2 2 [.string word, .string ⟨(Lib.decDigits n).toArray⟩] (by simp [Act.eval, Act.put]) rfl (World.news_of_block (alloc_at _ _)) (by simp [Value.oneCell']) (by omega) (by unfold maxLen; omega) (by omega) (by simp; omega) _ rfl ?_; intro g cap w2 ho2 hg2 hat2 hlt2; have HSa := (HS1.out.next ((Below.refl _ _).alloc (Nat.le_refl _) (.cells #[.string word, .string ⟨(Lib.decDigits n).toArray⟩] 9))); have hbx := grown_blk hg2 HSa.ne HSa.box; have c2 := cell_blk (j := 0) hbx rfl; have f2 : w2.frozen? ⟨bx, 0, none⟩ = false := free_blk hbx; have HP := Lib.hid (HSa.put (ys := [word, ⟨(Lib.decDigits n).toArray⟩]) rfl ho2 hg2 hat2); have HB2 := Lib.hid ((((HB1.out.mono hbase).alloc (by omega) _).grown hg2 (by simp; omega) (fun k hk => (HSa.own.lt k hk).1)).setCell (p := ⟨bx, 0, none⟩) HSa.le (.slice (some ⟨g, 0, none⟩) (xs.length + 2) cap)); clear HSa hbx ho2 hg2 hat2 hlt2))
 all_goals
  go_end0
  exact ⟨rfl, ⟨_, HP.out⟩, HB2.out⟩
end Go.Proofs.YtidmgckmphcegaaGreatDoor
/-
 frame.Text: the header in words.
-/
namespace Go.Proofs.YtidmgckmphcegaaGreatDoor
open Go.RowKit
set_option linter.unusedVariables false
set_option linter.unusedSimpArgs false
def dec (n : Nat) : ByteArray := ⟨(Lib.decDigits n).toArray⟩
def tyW : Nat → ByteArray
 | 0 => ⟨#[100, 97, 116, 97]⟩
 | 1 => ⟨#[119, 105, 110, 100, 111, 119]⟩
 | 2 => ⟨#[112, 105, 110, 103]⟩
 | _ => ⟨#[97, 119, 97, 121]⟩
def kindW (ty : Nat) : List ByteArray := if ty < 4 then [tyW ty] else [⟨#[116, 121, 112, 101]⟩, dec ty]
def verW (ver : Nat) : List ByteArray := if ver = 0 then [] else [⟨#[118, 101, 114, 115, 105, 111, 110]⟩, dec ver]
def flW : Nat → ByteArray
 | 0 => ⟨#[115, 121, 110]⟩
 | 1 => ⟨#[97, 99, 107]⟩
 | 2 => ⟨#[102, 105, 110]⟩
 | _ => ⟨#[114, 115, 116]⟩
def flagW (fl : Nat) : Nat → List ByteArray
 | 0 => []
 | k + 1 => flagW fl k ++ if fl / 2 ^ k % 2 = 1 then [flW k] else []
theorem flagW_len (fl : Nat) : ∀ k, (flagW fl k).length ≤ k
 | 0 => by simp [flagW]
 | k + 1 => by have := flagW_len fl k; simp only [flagW, List.length_append]; split <;> simp <;> omega
def restW (fl : Nat) : List ByteArray := if fl / 16 = 0 then [] else [⟨#[102, 108, 97, 103, 115]⟩, dec (fl / 16 * 16)]
def clr (fl k : Nat) : Int := ((fl / 2 ^ k * 2 ^ k : Nat) : Int)
def allW (ver ty fl st ln : Nat) : List ByteArray := kindW ty ++ verW ver ++ flagW fl 4 ++ restW fl ++ [⟨#[115, 116, 114, 101, 97, 109]⟩, dec st] ++ [⟨#[108, 101, 110, 103, 116, 104]⟩, dec ln]
def textB (ver ty fl st ln : Nat) : List UInt8 := Lib.join ((allW ver ty fl st ln).map (·.data.toList)) [32]
def Sml (b : ByteArray) : Prop := b.data.toList.length ≤ 20
theorem dec_sml (n : Nat) (h : n < 18446744073709551616) : Sml (dec n) := by
 unfold Sml dec
 simp only [Lib.decDigits_length]
 exact Lib.nDigits_le20 n h
theorem tyW_sml (n : Nat) : Sml (tyW n) := by unfold Sml tyW; split <;> decide
theorem flW_sml (n : Nat) : Sml (flW n) := by unfold Sml flW; split <;> decide
theorem flagW_sml (fl : Nat) : ∀ k, ∀ x ∈ flagW fl k, Sml x
 | 0 => by simp [flagW]
 | k + 1 => by
   intro x hx
   rw [flagW, List.mem_append] at hx
   rcases hx with hx | hx
   · exact flagW_sml fl k x hx
   · split at hx
     · simp at hx; subst hx; exact flW_sml k
     · simp at hx
theorem allW_sml (ver ty fl st ln : Nat) (hver : ver ≤ 255) (hty : ty ≤ 255) (hfl : fl ≤ 65535) (hst : st ≤ 4294967295) (hln : ln ≤ 4294967295) : ∀ x ∈ allW ver ty fl st ln, Sml x := by
 intro x hx
 simp only [allW, List.mem_append] at hx
 rcases hx with ((((hx | hx) | hx) | hx) | hx) | hx
 · unfold kindW at hx
   split at hx
   · simp at hx; subst hx; exact tyW_sml ty
   · simp at hx; rcases hx with rfl | rfl
     · unfold Sml; decide
     · exact dec_sml _ (by omega)
 · unfold verW at hx
   split at hx
   · simp at hx
   · simp at hx; rcases hx with rfl | rfl
     · unfold Sml; decide
     · exact dec_sml _ (by omega)
 · exact flagW_sml fl 4 x hx
 · unfold restW at hx
   split at hx
   · simp at hx
   · simp at hx; rcases hx with rfl | rfl
     · unfold Sml; decide
     · exact dec_sml _ (by omega)
 · simp at hx; rcases hx with rfl | rfl
   · unfold Sml; decide
   · exact dec_sml _ (by omega)
 · simp at hx; rcases hx with rfl | rfl
   · unfold Sml; decide
   · exact dec_sml _ (by omega)
theorem allW_len (ver ty fl st ln : Nat) : (allW ver ty fl st ln).length ≤ 20 := by
 have := flagW_len fl 4
 unfold allW kindW verW restW
 simp only [List.length_append]
 split <;> split <;> split <;> simp <;> omega
theorem lens_sml : ∀ {xs : List ByteArray}, (∀ x ∈ xs, Sml x) → Lib.lens (xs.map (·.data.toList)) ≤ 20 * xs.length
 | [], _ => by simp [Lib.lens]
 | x :: xs, h => by
   have h1 : x.data.toList.length ≤ 20 := h x (by simp)
   have h2 := lens_sml (xs := xs) fun y hy => h y (by simp [hy])
   have e : Lib.lens ((x :: xs).map (·.data.toList)) = x.data.toList.length + Lib.lens (xs.map (·.data.toList)) := by simp [Lib.lens]
   rw [e, List.length_cons]
   omega
theorem join_sml {xs : List ByteArray} (h : ∀ x ∈ xs, Sml x) (hl : xs.length ≤ 20) : (Lib.join (xs.map (·.data.toList)) [32]).length ≤ 420 := by
 cases xs with
 | nil => simp [Lib.join]
 | cons x xs =>
   have h2 := lens_sml h
   rw [List.map_cons, Lib.join_length]
   simp only [List.map_cons, List.length_cons, List.length_map] at h2 hl ⊢
   simp
   omega
theorem text_len (ver ty fl st ln : Nat) (hver : ver ≤ 255) (hty : ty ≤ 255) (hfl : fl ≤ 65535) (hst : st ≤ 4294967295) (hln : ln ≤ 4294967295) : (textB ver ty fl st ln).length ≤ 420 :=
 join_sml (allW_sml ver ty fl st ln hver hty hfl hst hln) (allW_len ..)
def Words (w : World) : Prop := ∀ k, k < 4 → w.cell? ⟨10, k, none⟩ = some (.string (tyW k))
theorem Words.below {w w' : World} (h : Words w) (hb : Below w.heap.size w w') : Words w' := fun k hk => (hb.cell (World.block_lt_of_cell? w _ (h k hk))).trans (h k hk)
theorem and_pow (x k : Nat) : x &&& 2 ^ k = (x / 2 ^ k % 2) * 2 ^ k := by
 apply Nat.eq_of_testBit_eq
 intro i
 rw [Nat.testBit_and, Nat.testBit_two_pow]
 have h2 : x / 2 ^ k % 2 < 2 := Nat.mod_lt _ (by omega)
 by_cases hi : k = i
 · subst hi
   have e : x.testBit k = decide (x / 2 ^ k % 2 = 1) := by rw [Nat.testBit_eq_decide_div_mod_eq]
   rw [e, Nat.mul_comm, Nat.testBit_two_pow_mul]
   rcases (by omega : x / 2 ^ k % 2 = 0 ∨ x / 2 ^ k % 2 = 1) with h | h <;> simp [h]
 · have : (decide (k = i)) = false := by simp [hi]
   rw [this, Bool.and_false, Nat.mul_comm, Nat.testBit_two_pow_mul]
   symm
   rcases (by omega : x / 2 ^ k % 2 = 0 ∨ x / 2 ^ k % 2 = 1) with h | h
   · simp [h]
   · rw [h]
     by_cases hle : k ≤ i
     · have : i - k ≠ 0 := by omega
       simp [hle]
       rw [show (1 : Nat) = 2 ^ 0 from rfl, Nat.testBit_two_pow]
       simp; omega
     · simp [hle]
theorem clr_and (fl k : Nat) (hfl : fl ≤ 65535) (hk : k < 4) : bits .and .u16 (clr fl k) ((2 ^ k : Nat) : Int) = (((fl / 2 ^ k % 2) * 2 ^ k : Nat) : Int) := by
 unfold clr
 have h1 : fl / 2 ^ k * 2 ^ k ≤ fl := Nat.div_mul_le_self _ _
 have h2 : 2 ^ k < 65536 := by
  have : 2 ^ k ≤ 2 ^ 4 := Nat.pow_le_pow_right (by omega) (by omega)
  omega
 rw [u16_and_nat _ _ (by omega) h2, and_pow, Nat.mul_div_cancel _ (Nat.pow_pos (by omega))]
theorem clr_andNot (fl k : Nat) (hfl : fl ≤ 65535) (hk : k < 4) : bits .andNot .u16 (clr fl k) ((2 ^ k : Nat) : Int) = clr fl (k + 1) := by
 unfold clr
 have h1 : fl / 2 ^ k * 2 ^ k ≤ fl := Nat.div_mul_le_self _ _
 have h2 : 2 ^ k < 65536 := by
  have : 2 ^ k ≤ 2 ^ 4 := Nat.pow_le_pow_right (by omega) (by omega)
  omega
 rw [u16_andNot_nat _ _ (by omega) h2]
 have e : (fl / 2 ^ k * 2 ^ k) &&& (65535 - 2 ^ k) = fl / 2 ^ (k + 1) * 2 ^ (k + 1) := by
  apply Nat.eq_of_testBit_eq
  intro i
  rw [show 65535 - 2 ^ k = 2 ^ 16 - (2 ^ k + 1) by omega, Nat.testBit_and, Nat.testBit_two_pow_sub_succ (by omega), Nat.mul_comm, Nat.testBit_two_pow_mul, Nat.mul_comm, Nat.testBit_two_pow_mul, Nat.testBit_div_two_pow, Nat.testBit_div_two_pow, Nat.testBit_two_pow]
  rcases Nat.lt_trichotomy i k with h | h | h
  · have a1 : ¬ k ≤ i := by omega
    have a2 : ¬ k + 1 ≤ i := by omega
    simp [a1, a2]
  · subst h
    have a2 : ¬ i + 1 ≤ i := by omega
    simp [a2]
  · have a1 : k ≤ i := by omega
    have a2 : k + 1 ≤ i := by omega
    have a3 : ¬ k = i := by omega
    have a4 : k + (i - k) = i := by omega
    have a5 : k + 1 + (i - (k + 1)) = i := by omega
    have a6 : i - k + k = i := by omega
    have a7 : i - (k + 1) + (k + 1) = i := by omega
    by_cases h16 : i < 16
    · simp [a1, a2, a3, a4, a5, a6, a7, h16]
    · have a8 : fl.testBit i = false := Nat.testBit_lt_two_pow (Nat.lt_of_lt_of_le (show fl < 2 ^ 16 by omega) (Nat.pow_le_pow_right (by omega) (by omega)))
      simp [a1, a2, a3, a4, a5, a6, a7, a8]
 rw [e]
theorem clr_same (fl k : Nat) (h : ¬ fl / 2 ^ k % 2 = 1) : clr fl (k + 1) = clr fl k := by
 unfold clr
 have e : fl / 2 ^ (k + 1) = fl / 2 ^ k / 2 := by rw [Nat.pow_succ, Nat.div_div_eq_div_mul]
 have : fl / 2 ^ k = 2 * (fl / 2 ^ k / 2) := by omega
 rw [e, Nat.pow_succ]
 congr 1
 conv => rhs; rw [this]
 rw [Nat.mul_comm 2, Nat.mul_assoc, Nat.mul_comm 2]
set_option maxRecDepth 100000 in
set_option maxHeartbeats 1000000 in
theorem text_any (ver ty fl st ln : Nat) (w : World) (hver : ver ≤ 255) (hty : ty ≤ 255) (hfl : fl ≤ 65535) (hst : st ≤ 4294967295) (hln : ln ≤ 4294967295) (htab : Pow10 w) (hw : Words w) :
    Calls Tryz.prog 48 #[hdr ver ty fl st ln] w fun e w' => e = .returned (.string ⟨(textB ver ty fl st ln).toArray⟩) ∧ Below w.heap.size w w' := by
 have HT := Lib.hid htab
 have HW := Lib.hid hw
 clear htab hw
 obtain ⟨i0, hi, hz0, hz1, hz2⟩ := info_parts str_info
 obtain ⟨w0, hw0⟩ : ∃ w0, w0 = (w.alloc (.cells #[.int .u8 ver, .int .u8 ty, .int .u16 fl, .int .u32 st, .int .u32 ln] 25)).alloc (.cells #[.slice none 0 0] 94) := ⟨_, rfl⟩
 have hsz : w0.heap.size = w.heap.size + 2 := by rw [hw0]; simp
 have hb0 : Below w.heap.size w w0 := by rw [hw0]; exact ba_.alloc (by simp) _
 have hS0 : Say w0 (w.heap.size + 1) (w.heap.size + 1) (.slice none 0 0) [] := by
  refine ⟨?_, World.ownsRow_nil _ _ _ _, by simp [Value.ownBlock], Nat.le_refl _⟩
  rw [hw0]; exact alloc_at2 _ _ _
 have hH0 : w0.heap[w.heap.size]? = some (.cells #[.int .u8 ver, .int .u8 ty, .int .u16 fl, .int .u32 st, .int .u32 ln] 25 (0, 0)) := by rw [hw0, blk_old _ (by simp), alloc_at]
 have HT0 := Lib.hid (HT.out.below hb0)
 have HW0 := Lib.hid (HW.out.below hb0)
 have HS0 := Lib.hid hS0
 have HH0 := Lib.hid hH0
 have HB0 := Lib.hid hb0
 have HE := Lib.hid hw0
 clear hb0 hS0 hH0 hw0
 go_enter Tryz.func48, Tryz.ntmps48
 go_upto_if 13 with fail
 rw [← HE.out]
 clear HE
 go_cut [] (fun wx => Hid ((∃ v, Say wx (w.heap.size + 1) (w.heap.size + 1) v (kindW ty)) ∧ Below (w.heap.size + 1) w0 wx))
 case first =>
  by_cases h4 : ty < 4
  · have c0 := HS0.out.cell
    have c0a := fun o => cell?_alloc_old o HS0.out.cell
    have h1 : w0.cell? ⟨w.heap.size, 1, none⟩ = some (.int .u8 ty) := cell_blk HH0.out rfl
    have hwd := HW0.out ty h4
    have h4' : (ty : Int) < 4 := by omega
    go_wp2_with fail
    go_region_law (refine step_append_lies _ rfl (.tmp 14) (.tmp 19) 94 rfl (w.heap.size + 1) 9 i0 (.string ⟨#[]⟩) 1 16 Tryz.underlying94 hi hz0 hz1 hz2 rfl (by decide) (.slice none 0 0) 0 [] (by simp [Act.eval, Act.put]) (World.ownsRow_nil _ _ _ _) _ 1 1 [.string (tyW ty)] (by simp [Act.eval, Act.put]) rfl (World.news_of_block (alloc_at w0 (.cells #[.string (tyW ty)] 9))) (by simp [Value.oneCell']) (by omega) (by unfold maxLen; omega) (by omega) (by simp; omega) _ rfl ?_; intro g cap w2 ho2 hg2 hat2 hlt2; have HSa := (HS0.out.next (((Below.refl _ _).alloc (Nat.le_refl _) (.cells #[.string (tyW ty)] 9)).drew)); have hbx := grown_blk hg2 HSa.ne HSa.box; have c2 := cell_blk (j := 0) hbx rfl; have f2 : w2.frozen? ⟨w.heap.size + 1, 0, none⟩ = false := free_blk hbx; have HP := Lib.hid (HSa.put (ys := [tyW ty]) rfl ho2 hg2 hat2); have HB2 := Lib.hid (((((Below.refl (w.heap.size + 1) w0).alloc (by omega) (.cells #[.string (tyW ty)] 9)).drew.grown hg2 (by simp; omega) (fun k hk => by cases hk))).setCell (p := ⟨w.heap.size + 1, 0, none⟩) (Nat.le_refl _) (.slice (some ⟨g, 0, none⟩) (0 + 1) cap)); clear HSa hbx ho2 hg2 hat2 hlt2)
    all_goals go_wp2_with fail
    all_goals go_meet
    all_goals exact ⟨⟨_, by rw [kindW, if_pos h4]; exact HP.out⟩, HB2.out⟩
  · have h1 : w0.cell? ⟨w.heap.size, 1, none⟩ = some (.int .u8 ty) := cell_blk HH0.out rfl
    go_wp2_with fail
    refine (say_any (n := ty) HS0.out (by omega) (by simp) (by omega) HT0.out).mono ?_
    rintro e w1 ⟨rfl, ⟨v1, hS1⟩, hb1⟩
    have HP := Lib.hid hS1
    have HB2 := Lib.hid hb1
    clear hS1 hb1
    go_wp2_with fail
    go_meet
    exact ⟨⟨_, by rw [kindW, if_neg h4]; exact HP.out⟩, HB2.out⟩
 case rest =>
 obtain ⟨⟨v1, hS1⟩, hb1⟩ := hcut.out
 have HS1 := Lib.hid hS1
 have HB1 := Lib.hid hb1
 clear hS1 hb1 hcut HS0
 have hv0 : wc.cell? ⟨w.heap.size, 0, none⟩ = some (.int .u8 ver) := cell_blk ((HB1.out.block w.heap.size (by omega)).trans HH0.out) rfl
 have HT1 := Lib.hid (HT.out.below (HB0.out.trans (HB1.out.mono (by omega))))
 have hzc : w0.heap.size ≤ wc.heap.size := HB1.out.size
 go_upto_if 28 with fail
 go_cut [] (fun wx => Hid ((∃ v, Say wx (w.heap.size + 1) (w.heap.size + 1) v (kindW ty ++ verW ver)) ∧ Below (w.heap.size + 1) w0 wx))
 case first =>
  by_cases hv : ver = 0
  · subst hv
    go_wp2_with fail
    go_meet
    exact ⟨⟨_, by rw [verW, if_pos rfl, List.append_nil]; exact HS1.out⟩, HB1.out⟩
  · go_wp2_with fail
    refine (say_any (n := ver) HS1.out (by omega) (by unfold kindW; split <;> simp) (by omega) HT1.out).mono ?_
    rintro e w1 ⟨rfl, ⟨v1, hS1⟩, hb1⟩
    have HP := Lib.hid hS1
    have HB2 := Lib.hid (HB1.out.trans hb1)
    clear hS1 hb1
    go_wp2_with fail
    go_meet
    exact ⟨⟨_, by rw [verW, if_neg hv]; exact HP.out⟩, HB2.out⟩
 case rest =>
 obtain ⟨⟨v2, hS2⟩, hb2⟩ := hcut.out
 have HS2 := Lib.hid hS2
 have HB2 := Lib.hid hb2
 clear hS2 hb2 hcut HS1 HB1 HT1 hv0 hzc
 rename World => wd
 have hf0 : wd.cell? ⟨w.heap.size, 2, none⟩ = some (.int .u16 fl) := cell_blk ((HB2.out.block w.heap.size (by omega)).trans HH0.out) rfl
 have HT2 := Lib.hid (HT.out.below (HB0.out.trans (HB2.out.mono (by omega))))
 have hzd : w0.heap.size ≤ wd.heap.size := HB2.out.size
 go_wp2_with fail
 have hx0 : ∀ W, (Instr.index 150 (.agg #[.string ⟨#[115, 121, 110]⟩, .string ⟨#[97, 99, 107]⟩, .string ⟨#[102, 105, 110]⟩, .string ⟨#[114, 115, 116]⟩]) (.int .i64 0)).run Tryz.prog W = .ok (.string ⟨#[115, 121, 110]⟩) W := fun _ => by kernel_rfl
 have hx1 : ∀ W, (Instr.index 150 (.agg #[.string ⟨#[115, 121, 110]⟩, .string ⟨#[97, 99, 107]⟩, .string ⟨#[102, 105, 110]⟩, .string ⟨#[114, 115, 116]⟩]) (.int .i64 1)).run Tryz.prog W = .ok (.string ⟨#[97, 99, 107]⟩) W := fun _ => by kernel_rfl
 have hx2 : ∀ W, (Instr.index 150 (.agg #[.string ⟨#[115, 121, 110]⟩, .string ⟨#[97, 99, 107]⟩, .string ⟨#[102, 105, 110]⟩, .string ⟨#[114, 115, 116]⟩]) (.int .i64 2)).run Tryz.prog W = .ok (.string ⟨#[102, 105, 110]⟩) W := fun _ => by kernel_rfl
 have hx3 : ∀ W, (Instr.index 150 (.agg #[.string ⟨#[115, 121, 110]⟩, .string ⟨#[97, 99, 107]⟩, .string ⟨#[102, 105, 110]⟩, .string ⟨#[114, 115, 116]⟩]) (.int .i64 3)).run Tryz.prog W = .ok (.string ⟨#[114, 115, 116]⟩) W := fun _ => by kernel_rfl
 go_loopw [5, 37] (fun r i wr => ∃ k : Nat, k ≤ 4 ∧ i = .int .i64 k ∧ r = .int .u16 (clr fl k) ∧ Hid ((∃ v, Say wr (w.heap.size + 1) (w.heap.size + 1) v (kindW ty ++ verW ver ++ flagW fl k)) ∧ Below (w.heap.size + 1) w0 wr)) (fun _ i _ => 4 - (intOf i).toNat)
 case atStart => exact ⟨0, by omega, rfl, by simp [clr], ⟨_, by rw [flagW, List.append_nil]; exact HS2.out⟩, HB2.out⟩
 case round =>
  obtain ⟨k, hk, rfl, rfl, HR⟩ := hrel
  by_cases hlt : k < 4
  · obtain ⟨⟨v3, hS3⟩, hb3⟩ := HR.out
    obtain ⟨xs3, hxs3⟩ : ∃ xs3, xs3 = kindW ty ++ verW ver ++ flagW fl k := ⟨_, rfl⟩
    rw [← hxs3] at hS3
    have hln3 : xs3.length ≤ 20 := by rw [hxs3]; have := flagW_len fl k; unfold kindW verW; simp only [List.length_append]; split <;> split <;> simp <;> omega
    have HX := Lib.hid hxs3
    have HS3 := Lib.hid hS3
    have HB3 := Lib.hid hb3
    clear HR hS3 hb3 hxs3
    have c3 := HS3.out.cell
    have hzr : w0.heap.size ≤ wr.heap.size := HB3.out.size
    obtain rfl | rfl | rfl | rfl : k = 0 ∨ k = 1 ∨ k = 2 ∨ k = 3 := by omega
    · have hb : bits .and .u16 (clr fl 0) 1 = (((fl / 2 ^ 0 % 2) * 2 ^ 0 : Nat) : Int) := clr_and fl 0 hfl (by omega)
      by_cases hbit : fl / 2 ^ 0 % 2 = 1
      · have hne : (bits .and .u16 (clr fl 0) 1 != 0) = true := by rw [hb, hbit]; rfl
        have hN : bits .andNot .u16 (clr fl 0) 1 = clr fl 1 := clr_andNot fl 0 hfl (by omega)
        clear hb
        have HC := Lib.hid c3
        go_wp2_with (at_builtin; refine wpList_append_lies _ rfl _ _ 94 rfl (w.heap.size + 1) 9 i0 (.string ⟨#[]⟩) 1 16 Tryz.underlying94 hi hz0 hz1 hz2 rfl (by decide) v3 xs3.length (strs xs3) rfl (HS3.out.next ba_).own _ 1 1 [.string ⟨#[115, 121, 110]⟩] rfl rfl (World.news_of_block (alloc_at wr (.cells #[.string ⟨#[115, 121, 110]⟩] 9))) (by simp [Value.oneCell']) (by omega) (by unfold maxLen; omega) (by omega) (by simp; omega) _ rfl ?_; intro g cap w2 ho2 hg2 hat2 hlt2; have HSa := (HS3.out.next ((Below.refl _ _).alloc (Nat.le_refl _) (.cells #[.string ⟨#[115, 121, 110]⟩] 9))); have hbx := grown_blk hg2 HSa.ne HSa.box; have c2 := cell_blk (j := 0) hbx rfl; have f2 : w2.frozen? ⟨w.heap.size + 1, 0, none⟩ = false := free_blk hbx; have HP := Lib.hid (HSa.put (ys := [⟨#[115, 121, 110]⟩]) rfl ho2 hg2 hat2); have HB4 := Lib.hid (((HB3.out.alloc (by omega) (.cells #[.string ⟨#[115, 121, 110]⟩] 9)).grown hg2 (by simp; omega) (fun k hk => (HSa.own.lt k hk).1)).setCell (p := ⟨w.heap.size + 1, 0, none⟩) (Nat.le_refl _) (.slice (some ⟨g, 0, none⟩) (xs3.length + 1) cap)); clear HSa hbx ho2 hg2 hat2 hlt2)
        go_roundw
        case rel => exact ⟨1, by omega, by go_num, rfl, ⟨_, by rw [show kindW ty ++ verW ver ++ flagW fl 1 = xs3 ++ [⟨#[115, 121, 110]⟩] from by rw [HX.out]; show kindW ty ++ verW ver ++ (_ ++ if _ then _ else _) = _; rw [if_pos hbit, ← List.append_assoc]; rfl]; exact HP.out⟩, HB4.out⟩
        case measure => simp [intOf]
      · have hne : (bits .and .u16 (clr fl 0) 1 != 0) = false := by rw [hb, show fl / 2 ^ 0 % 2 = 0 by omega]; rfl
        clear hb
        go_wp2_with fail
        go_roundw
        case rel => exact ⟨1, by omega, by go_num, by rw [clr_same fl 0 hbit], ⟨_, by rw [show kindW ty ++ verW ver ++ flagW fl 1 = xs3 from by rw [HX.out]; show kindW ty ++ verW ver ++ (_ ++ if _ then _ else _) = _; rw [if_neg hbit, List.append_nil]]; exact HS3.out⟩, HB3.out⟩
        case measure => simp [intOf]
    · have hb : bits .and .u16 (clr fl 1) 2 = (((fl / 2 ^ 1 % 2) * 2 ^ 1 : Nat) : Int) := clr_and fl 1 hfl (by omega)
      by_cases hbit : fl / 2 ^ 1 % 2 = 1
      · have hne : (bits .and .u16 (clr fl 1) 2 != 0) = true := by rw [hb, hbit]; rfl
        have hN : bits .andNot .u16 (clr fl 1) 2 = clr fl 2 := clr_andNot fl 1 hfl (by omega)
        clear hb
        have HC := Lib.hid c3
        go_wp2_with (at_builtin; refine wpList_append_lies _ rfl _ _ 94 rfl (w.heap.size + 1) 9 i0 (.string ⟨#[]⟩) 1 16 Tryz.underlying94 hi hz0 hz1 hz2 rfl (by decide) v3 xs3.length (strs xs3) rfl (HS3.out.next ba_).own _ 1 1 [.string ⟨#[97, 99, 107]⟩] rfl rfl (World.news_of_block (alloc_at wr (.cells #[.string ⟨#[97, 99, 107]⟩] 9))) (by simp [Value.oneCell']) (by omega) (by unfold maxLen; omega) (by omega) (by simp; omega) _ rfl ?_; intro g cap w2 ho2 hg2 hat2 hlt2; have HSa := (HS3.out.next ((Below.refl _ _).alloc (Nat.le_refl _) (.cells #[.string ⟨#[97, 99, 107]⟩] 9))); have hbx := grown_blk hg2 HSa.ne HSa.box; have c2 := cell_blk (j := 0) hbx rfl; have f2 : w2.frozen? ⟨w.heap.size + 1, 0, none⟩ = false := free_blk hbx; have HP := Lib.hid (HSa.put (ys := [⟨#[97, 99, 107]⟩]) rfl ho2 hg2 hat2); have HB4 := Lib.hid (((HB3.out.alloc (by omega) (.cells #[.string ⟨#[97, 99, 107]⟩] 9)).grown hg2 (by simp; omega) (fun k hk => (HSa.own.lt k hk).1)).setCell (p := ⟨w.heap.size + 1, 0, none⟩) (Nat.le_refl _) (.slice (some ⟨g, 0, none⟩) (xs3.length + 1) cap)); clear HSa hbx ho2 hg2 hat2 hlt2)
        go_roundw
        case rel => exact ⟨2, by omega, by go_num, rfl, ⟨_, by rw [show kindW ty ++ verW ver ++ flagW fl 2 = xs3 ++ [⟨#[97, 99, 107]⟩] from by rw [HX.out]; show kindW ty ++ verW ver ++ (_ ++ if _ then _ else _) = _; rw [if_pos hbit, ← List.append_assoc]; rfl]; exact HP.out⟩, HB4.out⟩
        case measure => simp [intOf]
      · have hne : (bits .and .u16 (clr fl 1) 2 != 0) = false := by rw [hb, show fl / 2 ^ 1 % 2 = 0 by omega]; rfl
        clear hb
        go_wp2_with fail
        go_roundw
        case rel => exact ⟨2, by omega, by go_num, by rw [clr_same fl 1 hbit], ⟨_, by rw [show kindW ty ++ verW ver ++ flagW fl 2 = xs3 from by rw [HX.out]; show kindW ty ++ verW ver ++ (_ ++ if _ then _ else _) = _; rw [if_neg hbit, List.append_nil]]; exact HS3.out⟩, HB3.out⟩
        case measure => simp [intOf]
    · have hb : bits .and .u16 (clr fl 2) 4 = (((fl / 2 ^ 2 % 2) * 2 ^ 2 : Nat) : Int) := clr_and fl 2 hfl (by omega)
      by_cases hbit : fl / 2 ^ 2 % 2 = 1
      · have hne : (bits .and .u16 (clr fl 2) 4 != 0) = true := by rw [hb, hbit]; rfl
        have hN : bits .andNot .u16 (clr fl 2) 4 = clr fl 3 := clr_andNot fl 2 hfl (by omega)
        clear hb
        have HC := Lib.hid c3
        go_wp2_with (at_builtin; refine wpList_append_lies _ rfl _ _ 94 rfl (w.heap.size + 1) 9 i0 (.string ⟨#[]⟩) 1 16 Tryz.underlying94 hi hz0 hz1 hz2 rfl (by decide) v3 xs3.length (strs xs3) rfl (HS3.out.next ba_).own _ 1 1 [.string ⟨#[102, 105, 110]⟩] rfl rfl (World.news_of_block (alloc_at wr (.cells #[.string ⟨#[102, 105, 110]⟩] 9))) (by simp [Value.oneCell']) (by omega) (by unfold maxLen; omega) (by omega) (by simp; omega) _ rfl ?_; intro g cap w2 ho2 hg2 hat2 hlt2; have HSa := (HS3.out.next ((Below.refl _ _).alloc (Nat.le_refl _) (.cells #[.string ⟨#[102, 105, 110]⟩] 9))); have hbx := grown_blk hg2 HSa.ne HSa.box; have c2 := cell_blk (j := 0) hbx rfl; have f2 : w2.frozen? ⟨w.heap.size + 1, 0, none⟩ = false := free_blk hbx; have HP := Lib.hid (HSa.put (ys := [⟨#[102, 105, 110]⟩]) rfl ho2 hg2 hat2); have HB4 := Lib.hid (((HB3.out.alloc (by omega) (.cells #[.string ⟨#[102, 105, 110]⟩] 9)).grown hg2 (by simp; omega) (fun k hk => (HSa.own.lt k hk).1)).setCell (p := ⟨w.heap.size + 1, 0, none⟩) (Nat.le_refl _) (.slice (some ⟨g, 0, none⟩) (xs3.length + 1) cap)); clear HSa hbx ho2 hg2 hat2 hlt2)
        go_roundw
        case rel => exact ⟨3, by omega, by go_num, rfl, ⟨_, by rw [show kindW ty ++ verW ver ++ flagW fl 3 = xs3 ++ [⟨#[102, 105, 110]⟩] from by rw [HX.out]; show kindW ty ++ verW ver ++ (_ ++ if _ then _ else _) = _; rw [if_pos hbit, ← List.append_assoc]; rfl]; exact HP.out⟩, HB4.out⟩
        case measure => simp [intOf]
      · have hne : (bits .and .u16 (clr fl 2) 4 != 0) = false := by rw [hb, show fl / 2 ^ 2 % 2 = 0 by omega]; rfl
        clear hb
        go_wp2_with fail
        go_roundw
        case rel => exact ⟨3, by omega, by go_num, by rw [clr_same fl 2 hbit], ⟨_, by rw [show kindW ty ++ verW ver ++ flagW fl 3 = xs3 from by rw [HX.out]; show kindW ty ++ verW ver ++ (_ ++ if _ then _ else _) = _; rw [if_neg hbit, List.append_nil]]; exact HS3.out⟩, HB3.out⟩
        case measure => simp [intOf]
    · have hb : bits .and .u16 (clr fl 3) 8 = (((fl / 2 ^ 3 % 2) * 2 ^ 3 : Nat) : Int) := clr_and fl 3 hfl (by omega)
      by_cases hbit : fl / 2 ^ 3 % 2 = 1
      · have hne : (bits .and .u16 (clr fl 3) 8 != 0) = true := by rw [hb, hbit]; rfl
        have hN : bits .andNot .u16 (clr fl 3) 8 = clr fl 4 := clr_andNot fl 3 hfl (by omega)
        clear hb
        have HC := Lib.hid c3
        go_wp2_with (at_builtin; refine wpList_append_lies _ rfl _ _ 94 rfl (w.heap.size + 1) 9 i0 (.string ⟨#[]⟩) 1 16 Tryz.underlying94 hi hz0 hz1 hz2 rfl (by decide) v3 xs3.length (strs xs3) rfl (HS3.out.next ba_).own _ 1 1 [.string ⟨#[114, 115, 116]⟩] rfl rfl (World.news_of_block (alloc_at wr (.cells #[.string ⟨#[114, 115, 116]⟩] 9))) (by simp [Value.oneCell']) (by omega) (by unfold maxLen; omega) (by omega) (by simp; omega) _ rfl ?_; intro g cap w2 ho2 hg2 hat2 hlt2; have HSa := (HS3.out.next ((Below.refl _ _).alloc (Nat.le_refl _) (.cells #[.string ⟨#[114, 115, 116]⟩] 9))); have hbx := grown_blk hg2 HSa.ne HSa.box; have c2 := cell_blk (j := 0) hbx rfl; have f2 : w2.frozen? ⟨w.heap.size + 1, 0, none⟩ = false := free_blk hbx; have HP := Lib.hid (HSa.put (ys := [⟨#[114, 115, 116]⟩]) rfl ho2 hg2 hat2); have HB4 := Lib.hid (((HB3.out.alloc (by omega) (.cells #[.string ⟨#[114, 115, 116]⟩] 9)).grown hg2 (by simp; omega) (fun k hk => (HSa.own.lt k hk).1)).setCell (p := ⟨w.heap.size + 1, 0, none⟩) (Nat.le_refl _) (.slice (some ⟨g, 0, none⟩) (xs3.length + 1) cap)); clear HSa hbx ho2 hg2 hat2 hlt2)
        go_roundw
        case rel => exact ⟨4, by omega, by go_num, rfl, ⟨_, by rw [show kindW ty ++ verW ver ++ flagW fl 4 = xs3 ++ [⟨#[114, 115, 116]⟩] from by rw [HX.out]; show kindW ty ++ verW ver ++ (_ ++ if _ then _ else _) = _; rw [if_pos hbit, ← List.append_assoc]; rfl]; exact HP.out⟩, HB4.out⟩
        case measure => simp [intOf]
      · have hne : (bits .and .u16 (clr fl 3) 8 != 0) = false := by rw [hb, show fl / 2 ^ 3 % 2 = 0 by omega]; rfl
        clear hb
        go_wp2_with fail
        go_roundw
        case rel => exact ⟨4, by omega, by go_num, by rw [clr_same fl 3 hbit], ⟨_, by rw [show kindW ty ++ verW ver ++ flagW fl 4 = xs3 from by rw [HX.out]; show kindW ty ++ verW ver ++ (_ ++ if _ then _ else _) = _; rw [if_neg hbit, List.append_nil]]; exact HS3.out⟩, HB3.out⟩
        case measure => simp [intOf]
  · obtain rfl : k = 4 := by omega
    obtain ⟨⟨v3, hS3⟩, hb3⟩ := HR.out
    have HS3 := Lib.hid hS3
    have HB3 := Lib.hid hb3
    clear HR hS3 hb3
    have HT3 := Lib.hid (HT.out.below (HB0.out.trans (HB3.out.mono (by omega))))
    have hzr : w0.heap.size ≤ wr.heap.size := HB3.out.size
    go_upto_if 56 with fail
    have hcl : clr fl 4 = ((fl / 16 * 16 : Nat) : Int) := rfl
    have hl3 : (kindW ty ++ verW ver ++ flagW fl 4).length ≤ 20 := by have := flagW_len fl 4; unfold kindW verW; simp only [List.length_append]; split <;> split <;> simp <;> omega
    go_cut [] (fun wx => Hid ((∃ v, Say wx (w.heap.size + 1) (w.heap.size + 1) v (kindW ty ++ verW ver ++ flagW fl 4 ++ restW fl)) ∧ Below (w.heap.size + 1) w0 wx))
    case first =>
     by_cases h16 : fl / 16 = 0
     · have hne : (clr fl 4 != 0) = false := by rw [hcl, h16]; rfl
       clear hcl
       go_wp2_with fail
       go_meet
       exact ⟨⟨_, by rw [restW, if_pos h16, List.append_nil]; exact HS3.out⟩, HB3.out⟩
     · have hne : (clr fl 4 != 0) = true := by rw [hcl, bne_iff_ne]; omega
       have hwr : IntKind.u64.wrap (clr fl 4) = ((fl / 16 * 16 : Nat) : Int) := by rw [hcl, IntKind.wrap_u64]; omega
       clear hcl
       go_wp2_with fail
       refine (say_any (n := fl / 16 * 16) HS3.out (by omega) (by omega) (by omega) HT3.out).mono ?_
       rintro e w4 ⟨rfl, ⟨v4, hS4⟩, hb4⟩
       have HP := Lib.hid hS4
       have HB4 := Lib.hid (HB3.out.trans hb4)
       clear hS4 hb4
       go_wp2_with fail
       go_meet
       exact ⟨⟨_, by rw [restW, if_neg h16]; exact HP.out⟩, HB4.out⟩
    case rest =>
    obtain ⟨⟨v4, hS4⟩, hb4⟩ := hcut.out
    have HS4 := Lib.hid hS4
    have HB4 := Lib.hid hb4
    clear hS4 hb4 hcut HS3 HB3 HT3 hzr hcl
    rename World => wf
    have hs4 : wf.cell? ⟨w.heap.size, 3, none⟩ = some (.int .u32 st) := cell_blk ((HB4.out.block w.heap.size (by omega)).trans HH0.out) rfl
    have hz4 : w0.heap.size ≤ wf.heap.size := HB4.out.size
    have hl4 : (kindW ty ++ verW ver ++ flagW fl 4 ++ restW fl).length ≤ 22 := by rw [List.length_append]; unfold restW; split <;> simp <;> simp at hl3 <;> omega
    have HT4 := Lib.hid (HT.out.below (HB0.out.trans (HB4.out.mono (by omega))))
    go_wp2_with fail
    refine (say_any (n := st) HS4.out (by omega) (by omega) (by omega) HT4.out).mono ?_
    rintro e w5 ⟨rfl, ⟨v5, hS5⟩, hb5⟩
    have HS5 := Lib.hid hS5
    have HB5 := Lib.hid (HB4.out.trans hb5)
    clear hS5 hb5 hs4
    have hs5 : w5.cell? ⟨w.heap.size, 4, none⟩ = some (.int .u32 ln) := cell_blk ((HB5.out.block w.heap.size (by omega)).trans HH0.out) rfl
    have hz5 : w0.heap.size ≤ w5.heap.size := HB5.out.size
    have HT5 := Lib.hid (HT.out.below (HB0.out.trans (HB5.out.mono (by omega))))
    go_wp2_with fail
    refine (say_any (n := ln) HS5.out (by omega) (by rw [List.length_append]; simp; simp at hl4; omega) (by omega) HT5.out).mono ?_
    rintro e w6 ⟨rfl, ⟨v6, hS6⟩, hb6⟩
    have HB6 := Lib.hid (HB5.out.trans hb6)
    have hS6' : Say w6 (w.heap.size + 1) (w.heap.size + 1) v6 (allW ver ty fl st ln) := hS6
    obtain ⟨g6, cap6, rfl, hg6, hlt6⟩ := hS6'.own.form (by unfold allW; simp; omega)
    have hcells := row_cells hS6'.own
    have c6 := hS6'.cell
    have hcp : (allW ver ty fl st ln).length ≤ cap6 := by
     rcases hS6'.own.2 with ⟨e, _⟩ | ⟨g', cap, cur, hv, hb, hg, hn, _⟩
     · cases e
     · obtain ⟨rfl, rfl⟩ : g6 = g' ∧ cap6 = cap := by simpa using hv
       exact hn
    have HC6 := Lib.hid hcells
    have HCP := Lib.hid hcp
    clear hS6 hS6' hcells hb6 hcp
    go_wp2_with fail
    refine (Tryz.strings_Join g6 0 cap6 (allW ver ty fl st ln) ⟨#[32]⟩ _ (fun j x hx => ?_) hlt6 (by have := allW_len ver ty fl st ln; omega) HCP.out (by have := text_len ver ty fl st ln hver hty hfl hst hln; unfold textB at this; exact Nat.le_trans this (by omega))).mono ?_
    · have := HC6.out j (.string x) (by simp [strs, hx])
      rwa [Addr.add_lit] at this
    rintro e w7 ⟨rfl, hb7⟩
    go_wp2_with fail
    go_ret
    exact ⟨rfl, HB0.out.trans ((HB6.out.mono (by omega)).trans (hb7.mono (by have := HB6.out.size; omega)))⟩
end Go.Proofs.YtidmgckmphcegaaGreatDoor
/-
 Plain: two headers with one text are one header.
-/
namespace Go.Proofs.YtidmgckmphcegaaGreatDoor
set_option linter.unusedVariables false
set_option linter.unusedSimpArgs false
def valD (l : List UInt8) : Nat := l.foldl (fun a d => a * 10 + (d.toNat - 48)) 0
theorem dig_nat {k : Nat} (h : k < 10) : (UInt8.ofNat (48 + k)).toNat = 48 + k := by
 rw [UInt8.toNat_ofNat']; omega
theorem valD_dec (u : Nat) : valD (Lib.decDigits u) = u := by
 induction u using Nat.strongRecOn with
 | _ u ih =>
   rw [Lib.decDigits]
   by_cases h : u < 10
   · rw [dif_pos h]
     simp only [valD, List.foldl_cons, List.foldl_nil, dig_nat h]; omega
   · rw [dif_neg h]
     have e := ih (u / 10) (by omega)
     unfold valD at e ⊢
     rw [List.foldl_append, e]
     simp only [List.foldl_cons, List.foldl_nil, dig_nat (show u % 10 < 10 by omega)]; omega
theorem dec_digits (u : Nat) : ∀ x ∈ Lib.decDigits u, 48 ≤ x.toNat ∧ x.toNat ≤ 57 := by
 induction u using Nat.strongRecOn with
 | _ u ih =>
   rw [Lib.decDigits]
   by_cases h : u < 10
   · rw [dif_pos h]
     intro x hx
     obtain rfl := List.mem_singleton.1 hx
     rw [dig_nat h]; omega
   · rw [dif_neg h]
     intro x hx
     rcases List.mem_append.1 hx with hx | hx
     · exact ih _ (by omega) x hx
     · obtain rfl := List.mem_singleton.1 hx
       rw [dig_nat (by omega)]; omega
theorem dec_ne_nil (u : Nat) : Lib.decDigits u ≠ [] := by
 rw [Lib.decDigits]; split <;> simp
def Wd (b : ByteArray) : Prop := b.data.toList ≠ [] ∧ ∀ x ∈ b.data.toList, x ≠ 32
theorem dec_wd (u : Nat) : Wd (dec u) := by
 refine ⟨by simpa [dec] using dec_ne_nil u, fun x hx => ?_⟩
 have := dec_digits u x (by simpa [dec] using hx)
 rintro rfl
 exact absurd this.1 (by decide)
def tlB (xs : List ByteArray) : List UInt8 := match xs with | [] => [] | y :: ys => 32 :: Lib.join ((y :: ys).map (·.data.toList)) [32]
theorem join_cons (x : ByteArray) (xs : List ByteArray) : Lib.join ((x :: xs).map (·.data.toList)) [32] = x.data.toList ++ tlB xs := by
 cases xs <;> simp [Lib.join, tlB, List.intercalate]
theorem tyW_wd (k : Nat) : Wd (tyW k) := by unfold tyW Wd; split <;> decide
theorem flW_wd (k : Nat) : Wd (flW k) := by unfold flW Wd; split <;> decide
theorem flagW_mem (fl : Nat) : ∀ k, ∀ x ∈ flagW fl k, ∃ j, x = flW j
 | 0 => by simp [flagW]
 | k + 1 => by
   intro x hx
   rw [flagW, List.mem_append] at hx
   rcases hx with hx | hx
   · exact flagW_mem fl k x hx
   · split at hx
     · simp at hx; exact ⟨k, hx⟩
     · simp at hx
theorem allW_wd (ver ty fl st ln : Nat) : ∀ x ∈ allW ver ty fl st ln, Wd x := by
 intro x hx
 simp only [allW, List.mem_append] at hx
 rcases hx with ((((hx | hx) | hx) | hx) | hx) | hx
 · unfold kindW at hx
   split at hx
   · simp at hx; subst hx; exact tyW_wd _
   · simp at hx; rcases hx with rfl | rfl
     · unfold Wd; decide
     · exact dec_wd _
 · unfold verW at hx
   split at hx
   · simp at hx
   · simp at hx; rcases hx with rfl | rfl
     · unfold Wd; decide
     · exact dec_wd _
 · obtain ⟨j, rfl⟩ := flagW_mem fl 4 x hx; exact flW_wd j
 · unfold restW at hx
   split at hx
   · simp at hx
   · simp at hx; rcases hx with rfl | rfl
     · unfold Wd; decide
     · exact dec_wd _
 · simp at hx; rcases hx with rfl | rfl
   · unfold Wd; decide
   · exact dec_wd _
 · simp at hx; rcases hx with rfl | rfl
   · unfold Wd; decide
   · exact dec_wd _
theorem allW_ne (ver ty fl st ln : Nat) : allW ver ty fl st ln ≠ [] := by unfold allW; simp
theorem flagW_mod (fl : Nat) : flagW fl 4 = flagW (fl % 16) 4 := by
 have h0 : fl / 1 % 2 = fl % 16 / 1 % 2 := by omega
 have h1 : fl / 2 % 2 = fl % 16 / 2 % 2 := by omega
 have h2 : fl / 4 % 2 = fl % 16 / 4 % 2 := by omega
 have h3 : fl / 8 % 2 = fl % 16 / 8 % 2 := by omega
 simp only [flagW, Nat.reducePow, h0, h1, h2, h3]
end Go.Proofs.YtidmgckmphcegaaGreatDoor
/-
 What a row's list of package-level variables gives of frame.words and of strconv's table of powers of ten.
-/
namespace Go.Proofs.YtidmgckmphcegaaGreatDoor
open Go.RowKit Go.ChangeShapes
theorem pow10_of {W : World} {l : List (String × DataW Unit)} (h : laidMet Tryz.prog l W) (hm : ("internal/strconv.uint64pow10", Lib.tabData .u64 Lib.pow10Tab) ∈ l) : Pow10 W :=
 Lib.tabIs_of_head (g := 45) (t := 230) (e := 132) (n := 20) (by kernel_rfl) (by kernel_rfl) Tryz.underlying230 Tryz.underlying132 (by kernel_rfl) (by kernel_rfl) (laidMet_sub (List.singleton_sublist.2 hm) h)
def wordsD : DataW Unit := .agg [.lit (.string [100, 97, 116, 97]), .lit (.string [119, 105, 110, 100, 111, 119]), .lit (.string [112, 105, 110, 103]), .lit (.string [97, 119, 97, 121])]
set_option maxRecDepth 100000 in
theorem words_of {W : World} {l : List (String × DataW Unit)} (h : laidMet Tryz.prog l W) (hm : ("culvert/frame.words", wordsD) ∈ l) : Words W := by
 obtain ⟨cs, fuel, p, hv, hd⟩ := laid_at h hm (g := 10) (t := 150) (by kernel_rfl) (by kernel_rfl)
 obtain ⟨xs, m1, hx0, hx1, hlen, hn3, hel⟩ := DataW.trod_array Tryz.underlying150 hd
 have c9 : Tryz.prog.cellsOf 9 = 1 := by kernel_rfl
 have c4 : Tryz.prog.cellsOf 150 = 4 := by kernel_rfl
 rw [c4] at hlen
 have hL : wordsD = .agg (xs.map (·.1)) := congrArg (·.1) hx1
 have hD : ∀ i, i < 4 → (xs.map (·.1))[i]? = some (.lit (.string (tyW i).data.toList)) := fun i hi => by
  rw [← DataW.agg.inj hL]
  match i, hi with
  | 0, _ => rfl
  | 1, _ => rfl
  | 2, _ => rfl
  | 3, _ => rfl
 intro i hi
 have hi1 := hel i hi
 rw [c9, Nat.mul_one] at hi1
 have hxi : xs[i]? = some (xs[i]'(by omega)) := List.getElem?_eq_getElem (by omega)
 have hci : cs.toList[i]? = some (cs.toList[i]'(by omega)) := List.getElem?_eq_getElem (by omega)
 have htk : List.take 1 (List.drop i cs.toList) = [cs.toList[i]'(by omega)] := by
  rw [List.drop_eq_getElem_cons (by omega)]; rfl
 rw [htk, hxi] at hi1
 have hdi := hD i hi
 rw [List.getElem?_map, hxi] at hdi
 obtain ⟨s, hs, he, _⟩ := DataW.trod_string Tryz.underlying9 hi1
 have hs' := (List.cons.inj hs).1
 have e1 : (DataW.lit (.string s.data.toList) : DataW Unit) = .lit (.string (tyW i).data.toList) := by
  have := congrArg (·.1) he
  simp only [Option.map_some, Option.some.injEq] at hdi
  exact this.symm.trans hdi
 have e2 : s.data.toList = (tyW i).data.toList := by injection e1 with e1; injection e1
 have e3 : s = tyW i := by
  cases s; cases h : tyW i
  rw [h] at e2
  congr 1
  exact Array.ext' e2
 have := World.var?_cell (show Tryz.prog.globalNamed "culvert/frame.words" = some 10 by kernel_rfl) hv i
 rw [this]
 have h6 : cs[i]? = cs.toList[i]? := by simp
 rw [h6, hci, hs', e3]
end Go.Proofs.YtidmgckmphcegaaGreatDoor
