import Derived.Test.YtidmgckmphcegaaGreatDoorML
import Derived.Test.YtidmgckmphcegaaGreatDoorMK
import Derived.Test.YtidmgckmphcegaaGreatDoorMI
import Derived.Test.YtidmgckmphcegaaGreatDoorMD
import Derived.Lib.SlBytesConst
import Derived.Test.YtidmgckmphcegaaGreatDoorMB
import Derived.Test.YtidmgckmphcegaaGreatDoorME
import Derived.Shelf.Vars
/-
 culvertlaw26.wakes.
-/
namespace Go.Proofs.YtidmgckmphcegaaGreatDoor
open Go.RowKit Go.Proofs.YtidmgckmphcegaaGreatDoorW.PrintWords Go.Proofs.YtidmgckmphcegaaGreatDoorW.PrintLast Go.Proofs.YtidmgckmphcegaaGreatDoor.Px
set_option linter.unusedVariables false
set_option linter.unusedSimpArgs false
structure TE (sa : Nat → Addr) (w : World) : Prop where
 good : Good w sa
 law : Lawful w
 pow : Pow10 w
 wrd : Words w
 ert : ErT w
 ner : NErr w
 mxl : MaxL w
theorem TE.below {sa : Nat → Addr} {w w' : World} (h : TE sa w) (hb : Below w.heap.size w w') : TE sa w' :=
 ⟨h.good.below hb, h.law.below hb, h.pow.below hb, h.wrd.below hb, keepA hb h.ert, h.ner.below hb, h.mxl.below hb⟩
def exF : Fr := ⟨⟨0, 2, 2, 0, 9⟩, []⟩
theorem ex_cut : cut 3 exBytes = ([exF], [0, 1], 0, 0) := by
 have hs : szX exBytes = 0 := by decide
 have h1 : (exBytes.drop (12 + 0)) = [0, 1] := rfl
 rw [cut_go (by decide) (by decide) (by rw [hs]; decide), hs, h1, cut_short (by decide)]
 rfl
theorem ex_code0 : codeX 3 ([] ++ exBytes) = 0 := by unfold codeX; rw [List.nil_append, ex_cut]
theorem ex_tell : tellX 3 [] exBytes = exLine ++ [10] := by
 have h0 : codeX 3 [] = 0 := by unfold codeX; rw [cut_short (by decide)]
 have h1 : codeX 3 ([] ++ exBytes) = 0 := by unfold codeX; rw [List.nil_append, ex_cut]
 have h2 : newX 3 [] exBytes = [exF] := by
  unfold newX
  rw [if_pos h0]
  have h3 : restX 3 [] = [] := by unfold restX; rw [cut_short (by decide)]
  rw [h3, List.nil_append]
  unfold framesX
  rw [ex_cut]
 unfold tellX
 rw [if_pos h0, if_pos h1, h2, List.append_nil]
 have h3 : lineF exF = exLine := ex_lineB
 simp [tellL, h3]
theorem rd_lit (w w1 : World) (xs : List Int) {fz : Nat × Nat} (hx : ∀ x ∈ xs, 0 ≤ x ∧ x ≤ 255) (hb : w1.heap[w.heap.size]? = some (.cells (xs.map (fun x => Value.int .u8 x)).toArray 5 fz)) : Rd w1 (some ⟨w.heap.size, 0, none⟩) xs.length xs :=
 ⟨rfl, hx, fun h => ⟨_, rfl, fun j hj => by
  rw [Addr.add_lit, Nat.zero_add]
  refine cell_blk hb ?_
  simp [hj, List.getD_eq_getElem?_getD]⟩⟩
theorem ls_lit (l : List UInt8) : (⟨l.toArray⟩ : ByteArray).data.toList = l := rfl
set_option maxRecDepth 100000 in
set_option maxHeartbeats 4000000 in
theorem wakes_any {sa : Nat → Addr} {w : World} (hE : TE sa w) :
    Calls Tryz.prog 15 #[] w fun e w' => e = .returned (.bool true) ∧ Below w.heap.size w w' := by
 have HE := Lib.hid hE
 clear hE
 go_enter Tryz.func15, Tryz.ntmps15
 go_wp2_with fail
 rw [Lib.run_convert_bytes_const (P := Tryz.prog) w 26 5 #[.int .u8 97, .int .u8 32] 2 2 Tryz.underlying26 Tryz.underlying5]
 obtain ⟨w1, hw1⟩ : ∃ w1, w1 = w.alloc (.cells #[.int .u8 97, .int .u8 32] 5 (2, 3)) := ⟨_, rfl⟩
 have hb1 : Below w.heap.size w w1 := by rw [hw1]; exact (Below.refl _ _).alloc (Nat.le_refl _) _
 have hq1 : Rd w1 (some ⟨w.heap.size, 0, none⟩) 2 [97, 32] := rd_lit w w1 [97, 32] (by decide) (by rw [hw1]; exact alloc_at _ _)
 have HB1 := Lib.hid hb1
 have HQ1 := Lib.hid hq1
 have HW1 := Lib.hid hw1
 clear hw1 hb1 hq1
 go_wp2_with fail
 rw [← HW1.out]
 have hl := line_any 0 0 5 3 2 (some ⟨w.heap.size, 0, none⟩) 2 2 [97, 32] w1 (HE.out.good.below HB1.out) (HE.out.pow.below HB1.out) (HE.out.wrd.below HB1.out) HQ1.out (by decide) (by decide) (by decide) (by decide) (by decide)
 rw [if_pos (by decide), data_line] at hl
 refine hl.mono ?_
 rintro e w2 ⟨rfl, hb2⟩
 have HB2 := Lib.hid (belowT HB1.out hb2)
 clear hl hb2
 go_wp2_with fail
 have hp := parse_any ⟨pingLine.toArray⟩ (by decide) w2 (HE.out.good.below HB2.out) (HE.out.pow.below HB2.out) (HE.out.wrd.below HB2.out) (HE.out.ner.below HB2.out) (fun w' hb => splits_small 32 _ w' (by decide) (HE.out.mxl.below (belowT HB2.out hb)))
 refine hp.mono ?_
 intro e w3 hp3
 unfold ParseTo at hp3
 rw [ls_lit, ping_parse] at hp3
 obtain ⟨v3, rfl, ho3, hb3⟩ := hp3
 obtain ⟨A3, c3, rfl, _⟩ := Own.bs ho3 (by simp)
 have HB3 := Lib.hid (belowT HB2.out hb3)
 clear hp hb3 ho3
 go_wp2_with fail
 obtain ⟨w4, hw4⟩ : ∃ w4, w4 = w3.alloc (.cells #[.int .u8 0, .int .u8 2, .int .u16 1, .int .u32 0, .int .u32 7, .slice A3 0 c3] 28) := ⟨_, rfl⟩
 have hb4 : Below w3.heap.size w3 w4 := by rw [hw4]; exact (Below.refl _ _).alloc (Nat.le_refl _) _
 have HH4 := Lib.hid (show w4.heap[w3.heap.size]? = some (.cells #[.int .u8 0, .int .u8 2, .int .u16 1, .int .u32 0, .int .u32 7, .slice A3 0 c3] 28 (0, 0)) by rw [hw4]; exact alloc_at _ _)
 have HB4 := Lib.hid (belowT HB3.out hb4)
 rw [← hw4]
 clear hw4 hb4
 have hE4 := HE.out.below HB4.out
 refine (asm_any ⟨exText.toArray⟩ (by decide) w4 hE4.good hE4.pow hE4.wrd hE4.ner hE4.mxl).mono ?_
 intro e w5 hp5
 unfold AsmTo at hp5
 rw [ls_lit, ex_asm] at hp5
 obtain ⟨v5, rfl, ho5, hb5⟩ := hp5
 obtain ⟨A5, c5, rfl, hq5⟩ := Own.bs ho5 (by decide)
 have HQ5 := Lib.hid hq5
 have HB5 := Lib.hid (belowT HB4.out hb5)
 have HH5 := Lib.hid (keepB hb5 HH4.out)
 clear hE4 hb5 ho5 hq5
 go_wp2_with fail
 refine (tnew_yes sa (w0 := w) (w := w5) HB5.out.size 3 (by decide) (by decide)).mono ?_
 rintro e w6 ⟨g, gd, rfl, hgl, hgdl, hv6, hb6⟩
 have HV6 := Lib.hid hv6
 have HB6 := Lib.hid (belowT HB5.out hb6)
 have HH6 := Lib.hid (keepB hb6 HH5.out)
 have HQ6 := Lib.hid (HQ5.out.next hb6)
 clear hv6 hb6
 have e0 : w6.cell? ⟨w3.heap.size, 0, none⟩ = some (.int .u8 0) := cell_blk HH6.out rfl
 have e1 : w6.cell? ⟨w3.heap.size, 1, none⟩ = some (.int .u8 2) := cell_blk HH6.out rfl
 have e2 : w6.cell? ⟨w3.heap.size, 2, none⟩ = some (.int .u16 1) := cell_blk HH6.out rfl
 have e3 : w6.cell? ⟨w3.heap.size, 3, none⟩ = some (.int .u32 0) := cell_blk HH6.out rfl
 have e4 : w6.cell? ⟨w3.heap.size, 4, none⟩ = some (.int .u32 7) := cell_blk HH6.out rfl
 go_wp2_with fail
 rw [str_of HQ6.out]
 have hs : (strOfNums exBytes).toList = [0, 2, 0, 2, 0, 0, 0, 0, 0, 0, 0, 9, 0, 1] := by decide +kernel
 go_wp2_with fail
 have hf := tfeed_any HE.out.good HE.out.law HE.out.pow HE.out.wrd HE.out.ert g gd 3 [] (.slice none 0 0) 0 HB6.out HV6.out (by simp) A5 exBytes.length c5 exBytes HQ6.out (by decide) (by decide) (by decide) (.inl ex_code0)
 rw [ex_tell] at hf
 refine hf.mono ?_
 rintro e w7 ⟨v7, b7, rfl, hf7⟩
 have HB7 := Lib.hid hf7.below
 clear hf hf7
 have hs2 : ((⟨(exLine ++ [10]).toArray⟩ : ByteArray)).toList = [112, 105, 110, 103, 32, 97, 99, 107, 32, 115, 116, 114, 101, 97, 109, 32, 48, 32, 108, 101, 110, 103, 116, 104, 32, 57, 10] := by decide +kernel
 go_wp2_with fail
 go_ret
 exact ⟨rfl, HB7.out⟩
end Go.Proofs.YtidmgckmphcegaaGreatDoor
/-
 From a row's list of variables, and the world's shape, to what the Tap laws' walks ask; a law's argument that is a string.
-/
namespace Go.Proofs.YtidmgckmphcegaaGreatDoor
open Go.ChangeShapes Go.WideShapes Go.RowKit Go.Joins Go.Deep
set_option linter.unusedVariables false
theorem errv_of {W : World} {l : List (String × DataW Unit)} {nm : String} {tx : List UInt8} {g : Nat} (h : laidMet Tryz.prog l W) (hm : sentD nm tx ∈ l) (hg : Tryz.prog.globalNamed nm = some g) (ht : (Tryz.prog.globals[g]?).map (·.type) = some 33) : ∃ te pe, W.cell? ⟨g, 0, none⟩ = some (.iface te pe) := by
 obtain ⟨a, ha⟩ := laid_one h hm hg ht Tryz.underlying33 row_es Tryz.underlying253 Tryz.underlying255 rfl rfl Tryz.underlying9 (by kernel_rfl) (by kernel_rfl)
 exact ⟨_, _, ha.glob⟩
def synD : List UInt8 := [105, 110, 118, 97, 108, 105, 100, 32, 115, 121, 110, 116, 97, 120]
def rngD : List UInt8 := [118, 97, 108, 117, 101, 32, 111, 117, 116, 32, 111, 102, 32, 114, 97, 110, 103, 101]
theorem ner_of {W : World} {l : List (String × DataW Unit)} (h : laidMet Tryz.prog l W) (h1 : sentD "strconv.ErrSyntax" synD ∈ l) (h2 : sentD "strconv.ErrRange" rngD ∈ l) : NErr W :=
 ⟨errv_of h h1 (by kernel_rfl) (by kernel_rfl), errv_of h h2 (by kernel_rfl) (by kernel_rfl)⟩
theorem mxl_of {W : World} (h : W.ShapedOpen Tryz.prog) : MaxL W :=
 cell_of_shapedOpen_int (zero := #[.int .i64 0]) (t := 3) h (of_decide_eq_true (by kernel_rfl)) (by kernel_rfl) rfl (by kernel_rfl) (by kernel_rfl) Tryz.underlying3
section
variable {H : Type} {enc : TypeId × Value → H} {w : World} {base b0 : Nat} {spare : Nat → Bool} {held : Bool} {r : Reach}
set_option maxRecDepth 100000 in
theorem open_string {v : Value} {d : DataW H} {p : List MemPlace} (hv : Value.okWide Tryz.prog w r b0 9 v) (h : DataW.Trod enc Tryz.prog w base spare held 9 v d p) : ∃ s : ByteArray, v = .string s ∧ s.size + 1 ≤ Rows.uptoBulk d := by
 obtain ⟨fuel, hf⟩ := h
 obtain ⟨s, hs, he, _⟩ := DataW.trod_string Tryz.underlying9 hf
 have hd : d = .lit (.string s.data.toList) := congrArg (·.1) he
 obtain ⟨s', rfl⟩ : ∃ s', v = .string s' := by
  cases v with
  | string s' => exact ⟨s', rfl⟩
  | _ => simp [Value.okWide, Cell.okWide, Cell.ok, Tryz.underlying9] at hv
 simp [Value.cells] at hs
 subst hs
 refine ⟨_, rfl, ?_⟩
 rw [hd]
 simp [Rows.uptoBulk]
end
end Go.Proofs.YtidmgckmphcegaaGreatDoor
