import Derived.Test.YtidmgckmphcegaaGreatDoorMF
import Derived.Test.YtidmgckmphcegaaGreatDoorMS
import Derived.Test.YtidmgckmphcegaaGreatDoorMG
import Derived.Test.YtidmgckmphcegaaGreatDoorMH
import Derived.Laws.ResultCell
import Derived.Laws.Rows
/-
 strings.Split at a separator of one byte, its pieces as 'spl' tells them.
-/
namespace Go.Proofs.YtidmgckmphcegaaGreatDoor
open Go.RowKit
set_option linter.unusedVariables false
set_option linter.unusedSimpArgs false
theorem index_hit (c : UInt8) : ∀ (a r : List UInt8), (∀ x ∈ a, x ≠ c) → Lib.index (a ++ c :: r) [c] = (a.length : Int)
 | [], r, _ => by rw [List.nil_append, Lib.index]; simp [List.isPrefixOf]
 | b :: a, r, h => by
   have hb := h b (by simp)
   have ih := index_hit c a r fun x hx => h x (by simp [hx])
   have hp : ([c] : List UInt8).isPrefixOf (b :: (a ++ c :: r)) = false := by simp [List.isPrefixOf, Ne.symm hb]
   rw [List.cons_append, Lib.index, hp]
   simp only [Bool.false_eq_true, if_false]
   rw [ih, if_neg (by intro h; have := beq_iff_eq.1 h; omega)]
   simp
theorem index_none (c : UInt8) : ∀ (l : List UInt8), (∀ x ∈ l, x ≠ c) → Lib.index l [c] = -1
 | [], _ => by simp [Lib.index]
 | b :: l, h => by
   have hb := h b (by simp)
   have ih := index_none c l fun x hx => h x (by simp [hx])
   have hp : ([c] : List UInt8).isPrefixOf (b :: l) = false := by simp [List.isPrefixOf, Ne.symm hb]
   rw [Lib.index, hp]
   simp [ih]
theorem splitK_spl (c : UInt8) : ∀ (l : List UInt8), Lib.splitK [c] 0 (Lib.count l [c]) l = spl c l := by
 intro l
 induction hn : l.length using Nat.strongRecOn generalizing l with
 | ind n ih =>
   rcases spl_cons c l with ⟨a, r, h1, h2, h3⟩ | ⟨h1, h2⟩
   · have hi := index_hit c a r h2
     have hd : l.drop (a.length + 1) = r := by rw [h1]; simp
     have hc : Lib.count l [c] = 1 + Lib.count r [c] := by
      rw [Lib.count_hit (by simp) (i := a.length) (by rw [h1]; exact hi)]
      simp only [List.length_singleton, hd]
     rw [hc, Nat.add_comm, Lib.splitK, if_neg (by rw [h1, hi]; intro h; have := beq_iff_eq.1 h; omega), h3]
     have e : (Lib.index l [c]).toNat = a.length := by rw [h1, hi]; simp
     rw [e]
     simp only [List.length_singleton, Nat.add_zero, hd]
     rw [ih r.length (by rw [← hn, h1]; simp; omega) r rfl]
     congr 1
     rw [h1]; simp
   · have hi := index_none c l h1
     rw [Lib.count_miss hi, Lib.splitK, h2]
theorem pieces_eq (c : UInt8) (s : ByteArray) : (Lib.splitB ⟨#[c]⟩ 0 (Lib.countB s ⟨#[c]⟩) s).map Value.string = (spl c s.data.toList).map fun l => Value.string ⟨l.toArray⟩ := by
 have h := Lib.splitB_data ⟨#[c]⟩ 0 (Lib.countB s ⟨#[c]⟩) s
 have e : Lib.countB s ⟨#[c]⟩ = Lib.count s.data.toList [c] := rfl
 have h2 : (Lib.splitB ⟨#[c]⟩ 0 (Lib.countB s ⟨#[c]⟩) s).map (·.data.toList) = spl c s.data.toList := by rw [h, e]; exact splitK_spl c _
 rw [← h2, List.map_map]
 congr 1
def Splits (c : UInt8) (s : ByteArray) (w : World) : Prop :=
 Calls Tryz.prog 57 #[.string s, .string ⟨#[c]⟩] w fun e w' => e = .returned (.slice (some ⟨w.heap.size, 0, none⟩) (spl c s.data.toList).length (spl c s.data.toList).length) ∧ w' = w.alloc (.cells ((spl c s.data.toList).map fun l => Value.string ⟨l.toArray⟩).toArray 9)
def MaxL (w : World) : Prop := ∃ m, w.cell? ⟨46, 0, none⟩ = some (.int .i64 m)
theorem MaxL.below {w w' : World} (h : MaxL w) (hb : Below w.heap.size w w') : MaxL w' := by
 obtain ⟨m, h⟩ := h; exact ⟨m, keepA hb h⟩
theorem splits_small (c : UInt8) (s : ByteArray) (w : World) (hs : s.size < 4294967281) (hm : MaxL w) : Splits c s w := by
 obtain ⟨m, hm⟩ := hm
 have h := Tryz.strings_Split s ⟨#[c]⟩ m w hs hm (Nat.le_refl 1)
 have hl : Lib.countB s ⟨#[c]⟩ + 1 = (spl c s.data.toList).length := by
  have := congrArg List.length (pieces_eq c s)
  rw [List.length_map, List.length_map, Lib.splitB_all ⟨#[c]⟩ (Nat.le_refl 1) 0 _ s rfl] at this
  exact this
 rw [hl, pieces_eq] at h
 exact h
theorem spl_cells (w : World) (ws : List (List UInt8)) : ∀ j x, ws[j]? = some x → (w.alloc (.cells (ws.map fun l => Value.string ⟨l.toArray⟩).toArray 9)).cell? ⟨w.heap.size, 0 + j, none⟩ = some (.string ⟨x.toArray⟩) := by
 intro j x h
 rw [Nat.zero_add]
 exact cell_blk (alloc_at w _) (by simp [h])
theorem spl_len (c : UInt8) (l : List UInt8) : ∀ w ∈ spl c l, w.length ≤ l.length := by
 induction hn : l.length using Nat.strongRecOn generalizing l with
 | ind n ih =>
   intro w hw
   rcases spl_cons c l with ⟨a, r, h1, h2, h3⟩ | ⟨h1, h2⟩
   · rw [h3] at hw
     have hl : l.length = a.length + (r.length + 1) := by rw [h1]; simp
     rcases List.mem_cons.1 hw with rfl | hw
     · omega
     · have := ih r.length (by omega) r rfl w hw
       omega
   · rw [h2] at hw
     obtain rfl := List.mem_singleton.1 hw
     omega
theorem spl_count (c : UInt8) : ∀ l : List UInt8, (spl c l).length ≤ l.length + 1
 | [] => by simp [spl]
 | b :: l => by
   have ih := spl_count c l
   unfold spl
   split
   · simp; omega
   · split
     · simp
     · rename_i x xs h
       rw [h] at ih
       simp at ih ⊢; omega
end Go.Proofs.YtidmgckmphcegaaGreatDoor
/-
 tap.Parse.
-/
namespace Go.Proofs.YtidmgckmphcegaaGreatDoor
open Go.RowKit Go.Proofs.YtidmgckmphcegaaGreatDoorW.PrintWords Go.Proofs.YtidmgckmphcegaaGreatDoorW.PrintLast
set_option linter.unusedVariables false
set_option linter.unusedSimpArgs false
abbrev fcs (ver ty fl st ln : Int) (v : Value) : Array Value := #[.int .u8 ver, .int .u8 ty, .int .u16 fl, .int .u32 st, .int .u32 ln, v]
abbrev nilS : Value := .slice none 0 0
structure PW (w W : World) (ws : Wds) (bad : Bool) : Prop where
 ws : WSt W (w.heap.size + 1 + 1) ws bad
 res : W.heap[w.heap.size]? = some (.cells (fcs 0 0 0 0 0 nilS) 28 (0, 0))
 bel : Below w.heap.size w W
theorem PW.next {w W W' : World} {ws : Wds} {bad : Bool} (h : PW w W ws bad) (hb : Below W.heap.size W W') : PW w W' ws bad :=
 ⟨h.ws.next hb, keepB hb h.res, belowT h.bel hb⟩
theorem PW.call {w W W' : World} {ws ws' : Wds} {bad bad' : Bool} (h : PW w W ws bad) (hS : WSt W' (w.heap.size + 1 + 1) ws' bad') (hg : W.grownBy W' (some (w.heap.size + 1 + 1))) : PW w W' ws' bad' := by
 have hl := h.ws.lt
 refine ⟨hS, ?_, h.bel.grown hg (by omega) (fun k hk => by cases hk; omega)⟩
 rw [hg.block _ (by omega) (fun e => by have := Option.some.inj e; omega)]; exact h.res
def fputs (W : World) (g : Nat) (ver ty fl st ln : Int) (v : Value) : World :=
 (((((W.setCell ⟨g, 0, none⟩ (.int .u8 ver)).setCell ⟨g, 1, none⟩ (.int .u8 ty)).setCell ⟨g, 2, none⟩ (.int .u16 fl)).setCell ⟨g, 3, none⟩ (.int .u32 st)).setCell ⟨g, 4, none⟩ (.int .u32 ln)).setCell ⟨g, 5, none⟩ v
theorem fputs_blk {W : World} {g : Nat} {a0 a1 a2 a3 a4 a5 : Value} (h : W.heap[g]? = some (.cells #[a0, a1, a2, a3, a4, a5] 28 (0, 0))) (ver ty fl st ln : Int) (v : Value) : (fputs W g ver ty fl st ln v).heap[g]? = some (.cells (fcs ver ty fl st ln v) 28 (0, 0)) :=
 set_blk (j := 5) v (set_blk (j := 4) _ (set_blk (j := 3) _ (set_blk (j := 2) _ (set_blk (j := 1) _ (set_blk (j := 0) _ h)))))
theorem fputs_below {B : Nat} {w W : World} {g : Nat} (h : Below B w W) (hg : B ≤ g) (ver ty fl st ln : Int) (v : Value) : Below B w (fputs W g ver ty fl st ln v) :=
 (((((h.setCell (p := ⟨g, 0, none⟩) hg _).setCell (p := ⟨g, 1, none⟩) hg _).setCell (p := ⟨g, 2, none⟩) hg _).setCell (p := ⟨g, 3, none⟩) hg _).setCell (p := ⟨g, 4, none⟩) hg _).setCell (p := ⟨g, 5, none⟩) hg _
theorem drew_heap (W : World) : W.drew.heap = W.heap := rfl
theorem err_world {w W : World} {ws : Wds} {bad : Bool} (h : PW w W ws bad) : ∃ W5, (((((((W.setCell ⟨w.heap.size, 0, none⟩ (.int .u8 0)).setCell ⟨w.heap.size, 1, none⟩ (.int .u8 0)).setCell ⟨w.heap.size, 2, none⟩ (.int .u16 0)).setCell ⟨w.heap.size, 3, none⟩ (.int .u32 0)).setCell ⟨w.heap.size, 4, none⟩ (.int .u32 0)).setCell ⟨w.heap.size, 5, none⟩ (.slice none 0 0)).drew) = W5 ∧ W5.heap[w.heap.size]? = some (.cells (fcs 0 0 0 0 0 nilS) 28 (0, 0)) ∧ Below w.heap.size w W5 := by
 refine ⟨_, rfl, ?_, ?_⟩
 · rw [drew_heap]
   exact fputs_blk (W := W) (g := w.heap.size) h.res 0 0 0 0 0 nilS
 · exact Below.drew (fputs_below (W := W) (g := w.heap.size) h.bel (Nat.le_refl _) 0 0 0 0 0 nilS)
theorem put_world {w W : World} {ws : Wds} {bad : Bool} (h : PW w W ws bad) (ver ty fl st ln : Int) (v : Value) : ∃ W5, ((((((W.setCell ⟨w.heap.size, 0, none⟩ (.int .u8 ver)).setCell ⟨w.heap.size, 1, none⟩ (.int .u8 ty)).setCell ⟨w.heap.size, 2, none⟩ (.int .u16 fl)).setCell ⟨w.heap.size, 3, none⟩ (.int .u32 st)).setCell ⟨w.heap.size, 4, none⟩ (.int .u32 ln)).setCell ⟨w.heap.size, 5, none⟩ v) = W5 ∧ W5.heap[w.heap.size]? = some (.cells (fcs ver ty fl st ln v) 28 (0, 0)) ∧ Below w.heap.size w W5 ∧ (∀ k, k ≠ w.heap.size → W5.heap[k]? = W.heap[k]?) := by
 refine ⟨_, rfl, fputs_blk (W := W) (g := w.heap.size) h.res ver ty fl st ln v, fputs_below (W := W) (g := w.heap.size) h.bel (Nat.le_refl _) ver ty fl st ln v, fun k hk => ?_⟩
 rw [set_other _ hk, set_other _ hk, set_other _ hk, set_other _ hk, set_other _ hk, set_other _ hk]
theorem parse_ret {W : World} {g : Nat} {cs : Array Value} {tmps : Array Value} {Q : Ending → World → Prop} (hg : W.heap[g]? = some (.cells cs 28 (0, 0))) (hs : cs.size = 6) (hp : tmps.getD 2 undef = .pointer (some ⟨g, 0, none⟩))
    (hQ : Q (.returned (.tuple #[.agg cs, tmps.getD 3 undef])) W) : bodyPost Tryz.prog Tryz.f21 Q Exit.ret ⟨tmps, []⟩ W := by
 refine bodyPost_ret (v := .tuple #[.agg cs, tmps.getD 3 undef]) ?_ rfl hQ
 have hl := run_loadVar_row (P := Tryz.prog) W g 28 28 cs (0, 0) _ hg Tryz.underlying28 rfl (by rw [hs]; kernel_rfl)
 rw [results_cell_tmp (u := 3) (p := 2) (ty := 28) (by kernel_rfl)]
 rw [hp]
 simp [asAddr, hl, Result.andThen]
def ParseTo (sa : Nat → Addr) (w : World) (l : List UInt8) (e : Ending) (w' : World) : Prop :=
 match gparse l with
 | .error c => e = .returned (.tuple #[.agg (fcs 0 0 0 0 0 nilS), sv (sa c)]) ∧ Below w.heap.size w w'
 | .ok (h, d) => ∃ v, e = .returned (.tuple #[.agg (fcs h.ver h.ty h.fl h.st h.ln v), .nilIface]) ∧ Own w' w.heap.size v d ∧ Below w.heap.size w w'
theorem kindHas_any {X : ByteArray} {w : World} {g : Nat} (hK : KindsAt w g) :
    Calls Tryz.prog 58 #[.slice (some ⟨g, 0, none⟩) 4 4, .string X] w fun e w' => e = .returned (.bool (kindB X.data.toList)) ∧ w' = w := by
 have h := Tryz.slices_Contains_string g 0 4 4 kindsS X w (by decide) (by decide) hK
 have e : Lib.containsS (kindsS.take 4) X = kindB X.data.toList := by
  rw [Bool.eq_iff_iff, Lib.containsS_iff]
  have hm : ∀ i : Fin 4, (⟨(wKind i).toArray⟩ : ByteArray) ∈ kindsS.take 4 := by
   intro i
   have : i = 0 ∨ i = 1 ∨ i = 2 ∨ i = 3 := by omega
   rcases this with rfl | rfl | rfl | rfl
   · exact List.Mem.head _
   · exact List.Mem.tail _ (List.Mem.head _)
   · exact List.Mem.tail _ (List.Mem.tail _ (List.Mem.head _))
   · exact List.Mem.tail _ (List.Mem.tail _ (List.Mem.tail _ (List.Mem.head _)))
  constructor
  · intro hx
    simp only [kindsS, List.take, List.mem_cons, List.not_mem_nil, or_false] at hx
    rcases hx with rfl | rfl | rfl | rfl <;> rfl
  · intro hx
    unfold kindB at hx
    simp only [Bool.or_eq_true, beq_iff_eq] at hx
    have hb : ∀ l, X.data.toList = l → X = ⟨l.toArray⟩ := fun l hl => ba_ls (by rw [hl])
    rcases hx with ((hx | hx) | hx) | hx
    · rw [hb _ hx]; exact hm 0
    · rw [hb _ hx]; exact hm 1
    · rw [hb _ hx]; exact hm 2
    · rw [hb _ hx]; exact hm 3
 rw [e] at h
 exact h
set_option maxRecDepth 100000 in
set_option maxHeartbeats 2000000 in
theorem parse_any {sa : Nat → Addr} (line : ByteArray) (hs : line.size ≤ 1099511627776) (w : World) (hG : Good w sa) (hP : Pow10 w) (hW : Words w) (hN : NErr w) (hsp : Up w (Splits 32 line)) :
    Calls Tryz.prog 21 #[.string line] w (ParseTo sa w line.data.toList) := by
 obtain ⟨w1, hw1⟩ : ∃ w1, w1 = w.alloc (.cells (fcs 0 0 0 0 0 nilS) 28) := ⟨_, rfl⟩
 have hb1 : Below w.heap.size w w1 := by rw [hw1]; exact (Below.refl _ _).alloc (Nat.le_refl _) _
 obtain ⟨x, r, hws⟩ : ∃ x r, spl 32 line.data.toList = x :: r := by
  cases h : spl 32 line.data.toList with
  | nil => exact absurd h (spl_ne _ _)
  | cons x r => exact ⟨x, r, rfl⟩
 have hcount := spl_count 32 line.data.toList
 have hll : line.data.toList.length = line.size := by simp
 have hS1 : Splits 32 line w1 := hsp w1 hb1
 unfold Splits at hS1
 rw [hws] at hS1 hcount
 simp only [List.length_cons] at hS1 hcount
 have hz1 : w1.heap.size = w.heap.size + 1 := by rw [hw1]; simp
 rw [hz1] at hS1
 obtain ⟨pc, hpc⟩ : ∃ pc, pc = (x :: r).map fun l => Value.string ⟨l.toArray⟩ := ⟨_, rfl⟩
 rw [← hpc] at hS1
 have hpcl := spl_cells w1 (x :: r)
 rw [← hpc] at hpcl
 obtain ⟨w2, hw2⟩ : ∃ w2, w2 = (w1.alloc (.cells pc.toArray 9)).alloc (.cells #[.slice (some ⟨w.heap.size + 1, 0, none⟩) (r.length + 1) (r.length + 1), .bool false] 104) := ⟨_, rfl⟩
 have hWS : WS w2 (w.heap.size + 1 + 1) (w.heap.size + 1) 0 (r.length + 1) (x :: r) false := by
  refine ⟨?_, by omega, Nat.le_refl _, by omega, ?_, ?_⟩
  · have := alloc_at (w1.alloc (.cells pc.toArray 9)) (.cells #[.slice (some ⟨w.heap.size + 1, 0, none⟩) (r.length + 1) (r.length + 1), .bool false] 104)
    rw [hw2, show w.heap.size + 1 + 1 = (w1.alloc (.cells pc.toArray 9)).heap.size by simp; omega]
    exact this
  · intro j y hj
    rw [hw2]
    have := keepA ((Below.refl _ _).alloc (Nat.le_refl _) (.cells #[.slice (some ⟨w.heap.size + 1, 0, none⟩) (r.length + 1) (r.length + 1), .bool false] 104)) (hpcl j y hj)
    rw [hz1] at this
    exact this
  · intro y hy
    have := spl_len 32 line.data.toList y (by rw [hws]; exact hy)
    omega
 have hPW : PW w w2 (x :: r) false := by
  have hb12 : Below w1.heap.size w1 w2 := by rw [hw2]; exact ba_.alloc (by simp) _
  refine ⟨⟨_, _, _, hWS⟩, ?_, belowT hb1 hb12⟩
  refine keepB hb12 ?_
  rw [hw1, alloc_at]
 obtain ⟨X, hX⟩ : ∃ X : ByteArray, X = ⟨x.toArray⟩ := ⟨_, rfl⟩
 have hXl : X.data.toList = x := by rw [hX]
 have cx : w2.cell? ⟨w.heap.size + 1, 0, none⟩ = some (.string X) := by rw [hX]; exact hWS.rd 0 x rfl
 have c0 : w2.cell? ⟨w.heap.size + 1 + 1, 0, none⟩ = some (.slice (some ⟨w.heap.size + 1, 0, none⟩) (r.length + 1) (r.length + 1)) := cell_blk hWS.blk rfl
 have hXt : X.toList = x := by rw [Lib.toList_data]; exact hXl
 have HXT := Lib.hid hXt
 have HXL := Lib.hid hXl
 have HCX := Lib.hid cx
 have HC0 := Lib.hid c0
 have HE1 := Lib.hid hw1
 have HE2 := Lib.hid hw2
 have HS1 := Lib.hid hS1
 have HPW := Lib.hid hPW
 have HWS := Lib.hid hws
 have HG := Lib.hid hG
 have HP := Lib.hid hP
 have HW := Lib.hid hW
 have HN := Lib.hid hN
 clear hXt hpcl hpc hw1 hw2 hS1 hPW hG hP hW hN hsp hws hWS hX hXl cx c0
 go_enter Tryz.func21, Tryz.ntmps21
 go_wp2_with fail
 rw [← HE1.out]
 refine HS1.out.mono ?_
 rintro e w3 ⟨rfl, rfl⟩
 by_cases hk : (x == wType || kindB x) = true
 · go_upto_if 29 with fail
   rw [show ((w1.alloc (.cells pc.toArray 9)).alloc (.cells #[.slice (some ⟨w.heap.size + 1, 0, none⟩) (r.length + 1) (r.length + 1), .bool false] 104)) = w2 from HE2.out.symm]
   go_cut [29] (fun s29 wx => s29 = .bool false ∧ Hid (PW w wx (x :: r) false))
   case first =>
    by_cases hx : x = wType
    · have hq : (X.toList == [116, 121, 112, 101]) = true := by rw [HXT.out, hx]; rfl
      clear hx hk
      refine start_ (n := 18) (S := fun w' => w'.cell? ⟨w.heap.size + 1 + 1, 0, none⟩ = some (.slice (some ⟨w.heap.size + 1, 0, none⟩) (r.length + 1) (r.length + 1)) ∧ w'.cell? ⟨w.heap.size + 1, 0, none⟩ = some (.string X)) (ds := []) (bM 18 0) (by kernel_rfl) rfl rfl (⟨HC0.out, HCX.out⟩) (fun hHeld => ?_)
      refine pu_ 0 12 ?_ (bM 18 1) rfl rfl (by kernel_rfl) (.inl ⟨by rfl, ?_⟩) ?_ ?_ ?_; rotate_left
      · intro w'; go_simp; with_reducible rfl
      rotate_left
      · simp only [pA_, i64_w]; rfl
      refine pu_ 1 13 ?_ (bM 18 3) rfl rfl (by kernel_rfl) (.inl ⟨by rfl, ?_⟩) ?_ ?_ ?_; rotate_left
      · intro w'; go_simp; with_reducible rfl
      rotate_left
      · simp only [pA_, i64_w]; rfl
      refine pu_ 2 14 ?_ (bM 18 7) rfl rfl (by kernel_rfl) (.inl ⟨by rfl, ?_⟩) ?_ ?_ ?_; rotate_left
      · intro w'; go_simp; with_reducible rfl
      rotate_left
      · simp only [pA_, i64_w]; rfl
      refine tk_ 3 15 ?_ (bM 18 15) rfl rfl (by kernel_rfl) (.inl ⟨by rfl, ?_⟩) hHeld ?_ ?_ ?_; rotate_left
      · rintro w' ⟨s0, s1⟩; go_simp; with_reducible rfl
      rotate_left
      · simp only [pA_, i64_w]; rfl
      refine pu_ 4 16 ?_ (bM 18 31) rfl rfl (by kernel_rfl) (.inl ⟨by rfl, ?_⟩) ?_ ?_ ?_; rotate_left
      · intro w'; go_simp; with_reducible rfl
      rotate_left
      · simp only [pA_, i64_w]; rfl
      refine tk_ 5 17 ?_ (bM 18 63) rfl rfl (by kernel_rfl) (.inl ⟨by rfl, ?_⟩) hHeld ?_ ?_ ?_; rotate_left
      · rintro w' ⟨s0, s1⟩; go_simp; with_reducible rfl
      rotate_left
      · simp only [pA_, i64_w]; rfl
      refine pu_ 6 18 ?_ (bM 18 127) rfl rfl (by kernel_rfl) (.inl ⟨by rfl, ?_⟩) ?_ ?_ ?_; rotate_left
      · intro w'; go_simp; with_reducible rfl
      rotate_left
      · simp only [pA_, i64_w]; rfl
      refine pu_ 7 19 ?_ (bM 18 255) rfl rfl (by kernel_rfl) (.inl ⟨by rfl, ?_⟩) ?_ ?_ ?_; rotate_left
      · intro w'; go_simp; with_reducible rfl
      rotate_left
      · simp only [pA_, i64_w]; rfl
      refine pure_ (i := 8) (N := some 20) (v := undef) (a' := ?_) (bM 18 511) rfl rfl (by kernel_rfl) (fun _ _ _ h => h) (Or.inr ⟨by rfl, rfl⟩) ?_ ?_
      rotate_left
      · simp only [pA_, i64_w]
        rfl
      refine pure_ (i := 9) (N := some 21) (v := undef) (a' := ?_) (bM 18 1023) rfl rfl (by kernel_rfl) (fun _ _ _ h => h) (Or.inr ⟨by rfl, rfl⟩) ?_ ?_
      rotate_left
      · simp only [pA_, i64_w]
        rfl
      refine pure_ (i := 10) (N := some 22) (v := undef) (a' := ?_) (bM 18 2047) rfl rfl (by kernel_rfl) (fun _ _ _ h => h) (Or.inr ⟨by rfl, rfl⟩) ?_ ?_
      rotate_left
      · simp only [pA_, i64_w]
        rfl
      refine pure_ (i := 11) (N := some 23) (v := undef) (a' := ?_) (bM 18 4095) rfl rfl (by kernel_rfl) (fun _ _ _ h => h) (Or.inr ⟨by rfl, rfl⟩) ?_ ?_
      rotate_left
      · simp only [pA_, i64_w]
        rfl
      refine pure_ (i := 12) (N := some 24) (v := undef) (a' := ?_) (bM 18 8191) rfl rfl (by kernel_rfl) (fun _ _ _ h => h) (Or.inr ⟨by rfl, rfl⟩) ?_ ?_
      rotate_left
      · simp only [pA_, i64_w]
        rfl
      refine pure_ (i := 13) (N := some 25) (v := undef) (a' := ?_) (bM 18 16383) rfl rfl (by kernel_rfl) (fun _ _ _ h => h) (Or.inr ⟨by rfl, rfl⟩) ?_ ?_
      rotate_left
      · simp only [pA_, i64_w]
        rfl
      refine pure_ (i := 14) (N := some 26) (v := undef) (a' := ?_) (bM 18 32767) rfl rfl (by kernel_rfl) (fun _ _ _ h => h) (Or.inr ⟨by rfl, rfl⟩) ?_ ?_
      rotate_left
      · simp only [pA_, i64_w]
        rfl
      refine pure_ (i := 15) (N := some 27) (v := undef) (a' := ?_) (bM 18 65535) rfl rfl (by kernel_rfl) (fun _ _ _ h => h) (Or.inr ⟨by rfl, rfl⟩) ?_ ?_
      rotate_left
      · simp only [pA_, i64_w]
        rfl
      refine pure_ (i := 16) (N := some 28) (v := undef) (a' := ?_) (bM 18 131071) rfl rfl (by kernel_rfl) (fun _ _ _ h => h) (Or.inr ⟨by rfl, rfl⟩) ?_ ?_
      rotate_left
      · simp only [pA_, i64_w]
        rfl
      refine pu_ 17 29 ?_ (bM 18 262143) rfl rfl (by kernel_rfl) (.inl ⟨by rfl, ?_⟩) ?_ ?_ ?_; rotate_left
      · intro w'; go_simp; with_reducible rfl
      rotate_left
      · simp only [pA_, i64_w]; rfl
      refine done_ (by kernel_rfl) ?_
      go_wp2_with fail
      go_meet
      exact ⟨rfl, HPW.out.next (Below.refl _ _).drew⟩
    · have hq : (X.toList == [116, 121, 112, 101]) = false := by rw [HXT.out]; exact beq_eq_false_iff_ne.2 hx
      have hkb : kindB X.data.toList = true := by
       rw [HXL.out]
       simp only [Bool.or_eq_true, beq_iff_eq] at hk
       exact hk.resolve_left hx
      clear hx hk
      refine start_ (n := 18) (S := fun w' => w'.cell? ⟨w.heap.size + 1 + 1, 0, none⟩ = some (.slice (some ⟨w.heap.size + 1, 0, none⟩) (r.length + 1) (r.length + 1)) ∧ w'.cell? ⟨w.heap.size + 1, 0, none⟩ = some (.string X) ∧ Hid (Below w2.heap.size w2 w')) (ds := []) (bM 18 0) (by kernel_rfl) rfl rfl (⟨HC0.out, HCX.out, Lib.hid (Below.refl _ _).drew⟩) (fun hHeld => ?_)
      refine pu_ 0 12 ?_ (bM 18 1) rfl rfl (by kernel_rfl) (.inl ⟨by rfl, ?_⟩) ?_ ?_ ?_; rotate_left
      · intro w'; go_simp; with_reducible rfl
      rotate_left
      · simp only [pA_, i64_w]; rfl
      refine pu_ 1 13 ?_ (bM 18 3) rfl rfl (by kernel_rfl) (.inl ⟨by rfl, ?_⟩) ?_ ?_ ?_; rotate_left
      · intro w'; go_simp; with_reducible rfl
      rotate_left
      · simp only [pA_, i64_w]; rfl
      refine pu_ 2 14 ?_ (bM 18 7) rfl rfl (by kernel_rfl) (.inl ⟨by rfl, ?_⟩) ?_ ?_ ?_; rotate_left
      · intro w'; go_simp; with_reducible rfl
      rotate_left
      · simp only [pA_, i64_w]; rfl
      refine tk_ 3 15 ?_ (bM 18 15) rfl rfl (by kernel_rfl) (.inl ⟨by rfl, ?_⟩) hHeld ?_ ?_ ?_; rotate_left
      · rintro w' ⟨s0, s1, s2⟩; go_simp; with_reducible rfl
      rotate_left
      · simp only [pA_, i64_w]; rfl
      refine pu_ 4 16 ?_ (bM 18 31) rfl rfl (by kernel_rfl) (.inl ⟨by rfl, ?_⟩) ?_ ?_ ?_; rotate_left
      · intro w'; go_simp; with_reducible rfl
      rotate_left
      · simp only [pA_, i64_w]; rfl
      refine tk_ 5 17 ?_ (bM 18 63) rfl rfl (by kernel_rfl) (.inl ⟨by rfl, ?_⟩) hHeld ?_ ?_ ?_; rotate_left
      · rintro w' ⟨s0, s1, s2⟩; go_simp; with_reducible rfl
      rotate_left
      · simp only [pA_, i64_w]; rfl
      refine pu_ 6 18 ?_ (bM 18 127) rfl rfl (by kernel_rfl) (.inl ⟨by rfl, ?_⟩) ?_ ?_ ?_; rotate_left
      · intro w'; go_simp; with_reducible rfl
      rotate_left
      · simp only [pA_, i64_w]; rfl
      refine pu_ 7 19 ?_ (bM 18 255) rfl rfl (by kernel_rfl) (.inl ⟨by rfl, ?_⟩) ?_ ?_ ?_; rotate_left
      · intro w'; go_simp; with_reducible rfl
      rotate_left
      · simp only [pA_, i64_w]; rfl
      refine pu_ 9 21 ?_ (bM 18 767) rfl rfl (by kernel_rfl) (.inl ⟨by rfl, ?_⟩) ?_ ?_ ?_; rotate_left
      · intro w'; go_simp; with_reducible rfl
      rotate_left
      · simp only [pA_, i64_w]; rfl
      refine pu_ 10 22 ?_ (bM 18 1791) rfl rfl (by kernel_rfl) (.inl ⟨by rfl, ?_⟩) ?_ ?_ ?_; rotate_left
      · intro w'; go_simp; with_reducible rfl
      rotate_left
      · simp only [pA_, i64_w]; rfl
      refine pu_ 11 23 ?_ (bM 18 3839) rfl rfl (by kernel_rfl) (.inl ⟨by rfl, ?_⟩) ?_ ?_ ?_; rotate_left
      · intro w'; go_simp; with_reducible rfl
      rotate_left
      · simp only [pA_, i64_w]; rfl
      refine tk_ 12 24 ?_ (bM 18 7935) rfl rfl (by kernel_rfl) (.inl ⟨by rfl, ?_⟩) hHeld ?_ ?_ ?_; rotate_left
      · rintro w' ⟨s0, s1, s2⟩; go_simp; with_reducible rfl
      rotate_left
      · simp only [pA_, i64_w]; rfl
      refine pu_ 13 25 ?_ (bM 18 16127) rfl rfl (by kernel_rfl) (.inl ⟨by rfl, ?_⟩) ?_ ?_ ?_; rotate_left
      · intro w'; go_simp; with_reducible rfl
      rotate_left
      · simp only [pA_, i64_w]; rfl
      refine tk_ 14 26 ?_ (bM 18 32511) rfl rfl (by kernel_rfl) (.inl ⟨by rfl, ?_⟩) hHeld ?_ ?_ ?_; rotate_left
      · rintro w' ⟨s0, s1, s2⟩; go_simp; with_reducible rfl
      rotate_left
      · simp only [pA_, i64_w]; rfl
      refine one_ (i := 8) (N := some 20) (bM 18 32767) rfl rfl (by kernel_rfl) (by decide) (fun K hK => ?_)
      refine goes_ Tryz.func59 (by kernel_rfl) rfl #[] (by rfl) rfl rfl (by simp only [List.map_toArray, List.map_nil]) ?_
      with_reducible refine (kinds_any _).mono ?_
      rintro e w3 ⟨rfl, hw3⟩
      refine ⟨_, rfl, ?_⟩
      have hb3 : Below w2.drew.heap.size w2.drew w3 := by rw [hw3]; exact (Below.refl _ _).alloc (Nat.le_refl _) _
      have hKA : KindsAt w3 w2.drew.heap.size := by rw [hw3]; exact KindsAt.new _
      have HKA := Lib.hid hKA
      have HB3 := Lib.hid hb3
      clear hw3 hb3 hKA
      refine hK.out _ _ (⟨keepA HB3.out hHeld.1, keepA HB3.out hHeld.2.1, Lib.hid (belowT hHeld.2.2.out HB3.out)⟩) (fun hHeld => ?_)
      clear hK K
      refine norm_ (a' := ?_) ?_ ?_
      rotate_left
      · show Act.put _ (some 20) _ = _
        simp only [pA_, i64_w]
        rfl
      refine one_ (i := 15) (N := some 27) (bM 18 65535) rfl rfl (by kernel_rfl) (by decide) (fun K hK => ?_)
      refine goes_ Tryz.func58 (by kernel_rfl) rfl #[.slice (some ⟨w2.drew.heap.size, 0, none⟩) 4 4, .string X] (by rfl) rfl rfl (by simp only [List.map_toArray, List.map_cons, List.map_nil]; rfl) ?_
      with_reducible refine (kindHas_any HKA.out).mono ?_
      rintro e w4 ⟨rfl, hw4⟩
      refine ⟨_, rfl, ?_⟩
      subst hw4
      rw [hkb]
      refine hK.out _ _ (hHeld) (fun hHeld => ?_)
      clear hK K
      refine norm_ (a' := ?_) ?_ ?_
      rotate_left
      · show Act.put _ (some 27) _ = _
        simp only [pA_, i64_w]
        rfl
      refine pu_ 16 28 ?_ (bM 18 131071) rfl rfl (by kernel_rfl) (.inl ⟨by rfl, ?_⟩) ?_ ?_ ?_; rotate_left
      · intro w'; go_simp; with_reducible rfl
      rotate_left
      · simp only [pA_, i64_w]; rfl
      refine pu_ 17 29 ?_ (bM 18 262143) rfl rfl (by kernel_rfl) (.inl ⟨by rfl, ?_⟩) ?_ ?_ ?_; rotate_left
      · intro w'; go_simp; with_reducible rfl
      rotate_left
      · simp only [pA_, i64_w]; rfl
      refine done_ (by kernel_rfl) ?_
      go_wp2_with fail
      go_meet
      exact ⟨rfl, HPW.out.next hHeld.2.2.out⟩
   case rest =>
   obtain ⟨rfl, hcut2⟩ := hcut
   have HPc := Lib.hid hcut2.out
   clear hcut2
   go_wp2_with fail
   refine (header_any (HN.out.below HPc.out.bel) HPc.out.ws hk).mono ?_
   rintro e w4 ⟨rfl, hS4, hg4⟩
   obtain ⟨h, left, bad, hh⟩ : ∃ h left bad, hdrW (x :: r) = (h, left, bad) := ⟨_, _, _, rfl⟩
   have ho : h.Ok := by have := hdrW_ok (x :: r); rw [hh] at this; exact this
   have hP4 : PW w w4 left bad := by
    have := HPc.out.call hS4 hg4
    rw [hh] at this
    exact this
   rw [hh]
   simp only [hcs]
   have HH := Lib.hid hh
   have HK := Lib.hid hk
   have HO := Lib.hid ho
   obtain ⟨W5, hW5⟩ : ∃ W5, W5 = w4.alloc (.cells #[.int .u8 h.ver, .int .u8 h.ty, .int .u16 h.fl, .int .u32 h.st, .int .u32 h.ln, .slice none 0 0] 28) := ⟨_, rfl⟩
   have hb5 : Below w4.heap.size w4 W5 := by rw [hW5]; exact (Below.refl _ _).alloc (Nat.le_refl _) _
   have hF5 : W5.heap[w4.heap.size]? = some (.cells (fcs h.ver h.ty h.fl h.st h.ln nilS) 28 (0, 0)) := by rw [hW5]; exact alloc_at _ _
   have HW5 := Lib.hid hW5
   have HP5 := Lib.hid (hP4.next hb5)
   have HF5 := Lib.hid hF5
   have hFlt : w.heap.size + 1 + 1 < w4.heap.size := hP4.ws.lt
   obtain ⟨g4, o4, c4, hS4'⟩ := hP4.ws
   have c1 : (w4.alloc (.cells #[.int .u8 h.ver, .int .u8 h.ty, .int .u16 h.fl, .int .u32 h.st, .int .u32 h.ln, .slice none 0 0] 28)).cell? ⟨w.heap.size + 1 + 1, 1, none⟩ = some (.bool bad) := cell?_alloc_old _ (cell_blk hS4'.blk rfl)
   have e1 : (w4.alloc (.cells #[.int .u8 h.ver, .int .u8 h.ty, .int .u16 h.fl, .int .u32 h.st, .int .u32 h.ln, .slice none 0 0] 28)).cell? ⟨w4.heap.size, 1, none⟩ = some (.int .u8 h.ty) := by rw [← hW5]; exact cell_blk hF5 rfl
   clear hS4 hg4 hh hk ho hP4 hW5 hF5 hb5 HPc hS4'
   cases bad with
   | true =>
     have HRN : Hid (gparse line.data.toList = .error 41) := by
      show gparse _ = _
      unfold gparse
      simp only [HWS.out, List.headD_cons, HH.out, HK.out]
      rfl
     go_wp2_with fail
     rw [← HW5.out]
     have hPx := HP5.out
     have r0 := cell_blk (j := 0) hPx.res rfl
     have r1 := cell_blk (j := 1) hPx.res rfl
     have r2 := cell_blk (j := 2) hPx.res rfl
     have r3 := cell_blk (j := 3) hPx.res rfl
     have r4 := cell_blk (j := 4) hPx.res rfl
     have r5 := cell_blk (j := 5) hPx.res rfl
     have z0 := free_blk (j := 0) hPx.res
     have z1 := free_blk (j := 1) hPx.res
     have z2 := free_blk (j := 2) hPx.res
     have z3 := free_blk (j := 3) hPx.res
     have z4 := free_blk (j := 4) hPx.res
     have z5 := free_blk (j := 5) hPx.res
     have gE := ((HG.out.below hPx.bel).at_ 41 (by omega) (by omega)).glob
     have gL := (HG.out.at_ 41 (by omega) (by omega)).glt
     simp only [sgb] at gE gL
     have gN := Nat.ne_of_lt gL
     have gM := gN.symm
     clear hPx
     go_region
     all_goals
      go_wp2_with fail
      obtain ⟨W5, hW5, hq, hbf⟩ := err_world HP5.out
      rw [hW5]
      clear hW5 r0 r1 r2 r3 r4 r5 z0 z1 z2 z3 z4 z5
      refine parse_ret hq rfl rfl ?_
      show ParseTo _ _ _ _ _
      unfold ParseTo
      rw [HRN.out]
      exact ⟨rfl, hbf⟩
   | false =>
     have e0 : (w4.alloc (.cells #[.int .u8 h.ver, .int .u8 h.ty, .int .u16 h.fl, .int .u32 h.st, .int .u32 h.ln, .slice none 0 0] 28)).cell? ⟨w4.heap.size, 0, none⟩ = some (.int .u8 h.ver) := by rw [← HW5.out]; exact cell_blk HF5.out rfl
     have e2 : (w4.alloc (.cells #[.int .u8 h.ver, .int .u8 h.ty, .int .u16 h.fl, .int .u32 h.st, .int .u32 h.ln, .slice none 0 0] 28)).cell? ⟨w4.heap.size, 2, none⟩ = some (.int .u16 h.fl) := by rw [← HW5.out]; exact cell_blk HF5.out rfl
     have e3 : (w4.alloc (.cells #[.int .u8 h.ver, .int .u8 h.ty, .int .u16 h.fl, .int .u32 h.st, .int .u32 h.ln, .slice none 0 0] 28)).cell? ⟨w4.heap.size, 3, none⟩ = some (.int .u32 h.st) := by rw [← HW5.out]; exact cell_blk HF5.out rfl
     have e4 : (w4.alloc (.cells #[.int .u8 h.ver, .int .u8 h.ty, .int .u16 h.fl, .int .u32 h.st, .int .u32 h.ln, .slice none 0 0] 28)).cell? ⟨w4.heap.size, 4, none⟩ = some (.int .u32 h.ln) := by rw [← HW5.out]; exact cell_blk HF5.out rfl
     obtain ⟨T, hT⟩ : ∃ T : ByteArray, T = ⟨(textB h.ver h.ty h.fl h.st h.ln).toArray⟩ := ⟨_, rfl⟩
     have htext : ∀ W, Below w.heap.size w W → Calls Tryz.prog 48 #[hdr h.ver h.ty h.fl h.st h.ln] W fun e w' => e = .returned (.string T) ∧ Below W.heap.size W w' := by
      intro W hb
      have := HO.out
      rw [hT]
      exact text_any h.ver h.ty h.fl h.st h.ln W (by have := HO.out.ver; omega) (by have := HO.out.ty; omega) (by have := HO.out.fl; omega) (by have := HO.out.st; omega) (by have := HO.out.ln; omega) (HP.out.below hb) (HW.out.below hb)
     have hTl : T.data.toList = textH h := by rw [hT]; rfl
     have hTt : T.toList = textH h := by rw [Lib.toList_data]; exact hTl
     have HTX := Lib.hid htext
     have HTL := Lib.hid hTl
     have HTT := Lib.hid hTt
     have hlt : line.toList = line.data.toList := Lib.toList_data line
     have HLT := Lib.hid hlt
     clear hT htext hTl hTt hlt
     by_cases ht : h.ty = 0
     · have ht' : ((h.ty : Int) != 0) = false := by simp; omega
       have HTY := Lib.hid ht
       obtain ⟨g5, o5, c5, hS5⟩ := HP5.out.ws
       have hcap5 := hS5.cap
       have hmax5 := hS5.max
       by_cases hlen : left.length = 1
       · obtain ⟨t, rfl⟩ := List.length_eq_one_iff.1 hlen
         obtain ⟨Y, hY⟩ : ∃ Y : ByteArray, Y = ⟨t.toArray⟩ := ⟨_, rfl⟩
         have hYl : Y.data.toList = t := by rw [hY]
         have hts := hS5.sml t (by simp)
         have hYs : Y.size ≤ 1099511627776 := by have : Y.data.toList.length = Y.size := (by simp); rw [hYl] at this; omega
         have cy : W5.cell? ⟨g5, o5, none⟩ = some (.string Y) := by rw [hY]; exact hS5.rd 0 t rfl
         have cs : W5.cell? ⟨w.heap.size + 1 + 1, 0, none⟩ = some (.slice (some ⟨g5, o5, none⟩) 1 c5) := cell_blk hS5.blk rfl
         obtain ⟨J, hJ⟩ : ∃ J : ByteArray, J = ⟨(Lib.join (([T, Y] : List ByteArray).map (·.data.toList)) [32]).toArray⟩ := ⟨_, rfl⟩
         have hJl : J.data.toList = textH h ++ 32 :: t := by
          rw [hJ]
          show Lib.join [T.data.toList, Y.data.toList] [32] = _
          rw [join_two, join_one, HTL.out, hYl]
         have hJt : J.toList = textH h ++ 32 :: t := by rw [Lib.toList_data]; exact hJl
         have hTlen : (textH h).length ≤ 420 := text_len h.ver h.ty h.fl h.st h.ln (by have := HO.out.ver; omega) (by have := HO.out.ty; omega) (by have := HO.out.fl; omega) (by have := HO.out.st; omega) (by have := HO.out.ln; omega)
         have hjoin := fun W => joined2 W T Y (by
          show (Lib.join [T.data.toList, Y.data.toList] [32]).length ≤ _
          rw [join_two, join_one, HTL.out, hYl, List.length_append, List.length_cons]; omega)
         simp only [← hJ] at hjoin
         have HJN := Lib.hid hjoin
         have HJT := Lib.hid hJt
         have HCY := Lib.hid cy
         have HCS := Lib.hid cs
         have HYL := Lib.hid hYl
         have HYS := Lib.hid hYs
         have hl1 : ((1 : Int) != 1) = false := rfl
         clear hlen ht hY hYl hts hYs cy cs hJ hJl hJt hTlen hjoin hS5
         by_cases hl : textH h ++ 32 :: t = line.data.toList
         · have hq : (J.toList == line.toList) = true := by rw [HJT.out, HLT.out, hl]; simp
           have hgp : ∀ res, (match read t with | none => .error 41 | some d => if d.length ≠ h.ln then .error 15 else .ok (h, d)) = res → gparse line.data.toList = res := by
            intro res hr
            rw [← hr]
            unfold gparse
            simp only [HWS.out, List.headD_cons, HH.out, HK.out]
            rw [if_neg (by decide), if_neg (by decide), if_neg (fun hc => hc HTY.out), if_neg (by simp), if_neg (fun hc => hc hl)]
            rfl
           have HGP := Lib.hid hgp
           clear hl hgp
           go_wp2_with fail
           rw [← HW5.out]
           refine start_ (n := 21) (S := fun w' => w'.cell? ⟨w.heap.size + 1 + 1, 0, none⟩ = some (.slice (some ⟨g5, o5, none⟩) 1 c5) ∧ w'.cell? ⟨g5, o5, none⟩ = some (.string Y) ∧ w'.cell? ⟨w4.heap.size, 0, none⟩ = some (.int .u8 h.ver) ∧ w'.cell? ⟨w4.heap.size, 1, none⟩ = some (.int .u8 h.ty) ∧ w'.cell? ⟨w4.heap.size, 2, none⟩ = some (.int .u16 h.fl) ∧ w'.cell? ⟨w4.heap.size, 3, none⟩ = some (.int .u32 h.st) ∧ w'.cell? ⟨w4.heap.size, 4, none⟩ = some (.int .u32 h.ln) ∧ Hid (Below W5.heap.size W5 w')) (ds := []) (bM 21 0) (by kernel_rfl) rfl rfl (⟨HCS.out, HCY.out, cell_blk HF5.out rfl, cell_blk HF5.out rfl, cell_blk HF5.out rfl, cell_blk HF5.out rfl, cell_blk HF5.out rfl, Lib.hid (Below.refl _ _).drew⟩) (fun hHeld => ?_)
           refine pu_ 0 53 ?_ (bM 21 1) rfl rfl (by kernel_rfl) (.inl ⟨by rfl, ?_⟩) ?_ ?_ ?_; rotate_left
           · intro w'; go_simp; with_reducible rfl
           rotate_left
           · simp only [pA_, i64_w]; rfl
           refine pu_ 1 54 ?_ (bM 21 3) rfl rfl (by kernel_rfl) (.inl ⟨by rfl, ?_⟩) ?_ ?_ ?_; rotate_left
           · intro w'; go_simp; with_reducible rfl
           rotate_left
           · simp only [pA_, i64_w]; rfl
           refine pu_ 2 55 ?_ (bM 21 7) rfl rfl (by kernel_rfl) (.inl ⟨by rfl, ?_⟩) ?_ ?_ ?_; rotate_left
           · intro w'; go_simp; with_reducible rfl
           rotate_left
           · simp only [pA_, i64_w]; rfl
           refine tk_ 3 56 ?_ (bM 21 15) rfl rfl (by kernel_rfl) (.inl ⟨by rfl, ?_⟩) hHeld ?_ ?_ ?_; rotate_left
           · rintro w' ⟨s0, s1, s2, s3, s4, s5, s6, s7⟩; go_simp; with_reducible rfl
           rotate_left
           · simp only [pA_, i64_w]; rfl
           refine pu_ 4 57 ?_ (bM 21 31) rfl rfl (by kernel_rfl) (.inl ⟨by rfl, ?_⟩) ?_ ?_ ?_; rotate_left
           · intro w'; go_simp; with_reducible rfl
           rotate_left
           · simp only [pA_, i64_w]; rfl
           refine pu_ 5 58 ?_ (bM 21 63) rfl rfl (by kernel_rfl) (.inl ⟨by rfl, ?_⟩) ?_ ?_ ?_; rotate_left
           · intro w'; go_simp; with_reducible rfl
           rotate_left
           · simp only [pA_, i64_w]; rfl
           refine pu_ 6 59 ?_ (bM 21 127) rfl rfl (by kernel_rfl) (.inl ⟨by rfl, ?_⟩) ?_ ?_ ?_; rotate_left
           · intro w'; go_simp; with_reducible rfl
           rotate_left
           · simp only [pA_, i64_w]; rfl
           refine pu_ 7 60 ?_ (bM 21 255) rfl rfl (by kernel_rfl) (.inl ⟨by rfl, ?_⟩) ?_ ?_ ?_; rotate_left
           · intro w'; go_simp; with_reducible rfl
           rotate_left
           · simp only [pA_, i64_w]; rfl
           refine pu_ 10 63 ?_ (bM 21 1279) rfl rfl (by kernel_rfl) (.inl ⟨by rfl, ?_⟩) ?_ ?_ ?_; rotate_left
           · intro w'; go_simp; with_reducible rfl
           rotate_left
           · simp only [pA_, i64_w]; rfl
           refine pu_ 11 64 ?_ (bM 21 3327) rfl rfl (by kernel_rfl) (.inl ⟨by rfl, ?_⟩) ?_ ?_ ?_; rotate_left
           · intro w'; go_simp; with_reducible rfl
           rotate_left
           · simp only [pA_, i64_w]; rfl
           refine pu_ 12 65 ?_ (bM 21 7423) rfl rfl (by kernel_rfl) (.inl ⟨by rfl, ?_⟩) ?_ ?_ ?_; rotate_left
           · intro w'; go_simp; with_reducible rfl
           rotate_left
           · simp only [pA_, i64_w]; rfl
           refine pu_ 18 71 ?_ (bM 21 269567) rfl rfl (by kernel_rfl) (.inl ⟨by rfl, ?_⟩) ?_ ?_ ?_; rotate_left
           · intro w'; go_simp; with_reducible rfl
           rotate_left
           · simp only [pA_, i64_w]; rfl
           refine tk_ 8 61 ?_ (bM 21 269823) rfl rfl (by kernel_rfl) (.inl ⟨by rfl, ?_⟩) hHeld ?_ ?_ ?_; rotate_left
           · rintro w' ⟨s0, s1, s2, s3, s4, s5, s6, s7⟩; go_simp; with_reducible rfl
           rotate_left
           · simp only [pA_, i64_w]; rfl
           refine tk_ 13 66 ?_ (bM 21 278015) rfl rfl (by kernel_rfl) (.inl ⟨by rfl, ?_⟩) hHeld ?_ ?_ ?_; rotate_left
           · rintro w' ⟨s0, s1, s2, s3, s4, s5, s6, s7⟩; go_simp; with_reducible rfl
           rotate_left
           · simp only [pA_, i64_w]; rfl
           refine pu_ 14 67 ?_ (bM 21 294399) rfl rfl (by kernel_rfl) (.inl ⟨by rfl, ?_⟩) ?_ ?_ ?_; rotate_left
           · intro w'; go_simp; with_reducible rfl
           rotate_left
           · simp only [pA_, i64_w]; rfl
           refine tk_ 15 68 ?_ (bM 21 327167) rfl rfl (by kernel_rfl) (.inl ⟨by rfl, ?_⟩) hHeld ?_ ?_ ?_; rotate_left
           · rintro w' ⟨s0, s1, s2, s3, s4, s5, s6, s7⟩; go_simp; with_reducible rfl
           rotate_left
           · simp only [pA_, i64_w]; rfl
           refine one_ (i := 9) (N := some 62) (bM 21 327679) rfl rfl (by kernel_rfl) (by decide) (fun K hK => ?_)
           refine goes_ Tryz.func48 (by kernel_rfl) rfl #[hdr h.ver h.ty h.fl h.st h.ln] (by rfl) rfl rfl (by simp only [List.map_toArray, List.map_cons, List.map_nil]; rfl) ?_
           with_reducible refine (HTX.out _ (belowT HP5.out.bel hHeld.2.2.2.2.2.2.2.out)).mono ?_
           rintro e w6 ⟨rfl, hb6⟩
           refine ⟨_, rfl, ?_⟩
           have HB6 := Lib.hid hb6
           clear hb6
           refine hK.out _ _ (⟨keepA HB6.out hHeld.1, keepA HB6.out hHeld.2.1, keepA HB6.out hHeld.2.2.1, keepA HB6.out hHeld.2.2.2.1, keepA HB6.out hHeld.2.2.2.2.1, keepA HB6.out hHeld.2.2.2.2.2.1, keepA HB6.out hHeld.2.2.2.2.2.2.1, Lib.hid (belowT hHeld.2.2.2.2.2.2.2.out HB6.out)⟩) (fun hHeld => ?_)
           clear hK K
           refine norm_ (a' := ?_) ?_ ?_
           rotate_left
           · show Act.put _ (some 62) _ = _
             simp only [pA_, i64_w]
             rfl
           refine one_ (i := 16) (N := some 69) (bM 21 393215) rfl rfl (by kernel_rfl) (by decide) (fun K hK => ?_)
           refine value_ (w1 := ?_) (v := ?_) (by rfl) rfl ?_ ?_
           rotate_left 2
           · go_simp
             constructor
             · rfl
             · rfl
           refine hK.out _ _ (⟨keepA ba_ hHeld.1, keepA ba_ hHeld.2.1, keepA ba_ hHeld.2.2.1, keepA ba_ hHeld.2.2.2.1, keepA ba_ hHeld.2.2.2.2.1, keepA ba_ hHeld.2.2.2.2.2.1, keepA ba_ hHeld.2.2.2.2.2.2.1, Lib.hid (belowT hHeld.2.2.2.2.2.2.2.out ba_)⟩) (fun hHeld => ?_)
           clear hK K
           refine norm_ (a' := ?_) ?_ ?_
           rotate_left
           · show Act.put _ (some 69) _ = _
             simp only [pA_, i64_w]
             rfl
           refine one_ (i := 17) (N := some 70) (bM 21 524287) rfl rfl (by kernel_rfl) (by decide) (fun K hK => ?_)
           refine goes_ Tryz.func49 (by kernel_rfl) rfl #[.slice (some ⟨w6.heap.size, 0, none⟩) 2 2] (by rfl) rfl rfl (by simp only [List.map_toArray, List.map_cons, List.map_nil]; rfl) ?_
           with_reducible refine (HJN.out w6).mono ?_
           rintro e w8 ⟨rfl, hb8⟩
           refine ⟨_, rfl, ?_⟩
           have HB8 := Lib.hid hb8
           clear hb8
           refine hK.out _ _ (⟨keepA HB8.out hHeld.1, keepA HB8.out hHeld.2.1, keepA HB8.out hHeld.2.2.1, keepA HB8.out hHeld.2.2.2.1, keepA HB8.out hHeld.2.2.2.2.1, keepA HB8.out hHeld.2.2.2.2.2.1, keepA HB8.out hHeld.2.2.2.2.2.2.1, Lib.hid (belowT hHeld.2.2.2.2.2.2.2.out HB8.out)⟩) (fun hHeld => ?_)
           clear hK K
           refine norm_ (a' := ?_) ?_ ?_
           rotate_left
           · show Act.put _ (some 70) _ = _
             simp only [pA_, i64_w]
             rfl
           refine pu_ 19 72 ?_ (bM 21 1048575) rfl rfl (by kernel_rfl) (.inl ⟨by rfl, ?_⟩) ?_ ?_ ?_; rotate_left
           · intro w'; go_simp; with_reducible rfl
           rotate_left
           · simp only [pA_, i64_w]; rfl
           refine pu_ 20 73 ?_ (bM 21 2097151) rfl rfl (by kernel_rfl) (.inl ⟨by rfl, ?_⟩) ?_ ?_ ?_; rotate_left
           · intro w'; go_simp; with_reducible rfl
           rotate_left
           · simp only [pA_, i64_w]; rfl
           refine done_ (by kernel_rfl) ?_
           have HB58 := Lib.hid hHeld.2.2.2.2.2.2.2.out
           clear hHeld HB6 HB8
           have HP8 := Lib.hid (HP5.out.next HB58.out)
           have HF8 := Lib.hid (keepB HB58.out HF5.out)
           have cs8 := keepA HB58.out HCS.out
           have cy8 := keepA HB58.out HCY.out
           go_wp2_with fail
           refine (read_any Y HYS.out _ (HG.out.below HP8.out.bel)).mono ?_
           rintro e w9 hR
           rw [HYL.out] at hR
           unfold ReadTo at hR
           cases hrd : read t with
           | none =>
             rw [hrd] at hR
             obtain ⟨rfl, hb9⟩ := hR
             have HRN : Hid (gparse line.data.toList = .error 41) := HGP.out _ (by rw [hrd])
             have HP9 := Lib.hid (HP8.out.next hb9)
             clear hrd hb9 cs8 cy8
             have hPx := HP9.out
             have r0 := cell_blk (j := 0) hPx.res rfl
             have r1 := cell_blk (j := 1) hPx.res rfl
             have r2 := cell_blk (j := 2) hPx.res rfl
             have r3 := cell_blk (j := 3) hPx.res rfl
             have r4 := cell_blk (j := 4) hPx.res rfl
             have r5 := cell_blk (j := 5) hPx.res rfl
             have z0 := free_blk (j := 0) hPx.res
             have z1 := free_blk (j := 1) hPx.res
             have z2 := free_blk (j := 2) hPx.res
             have z3 := free_blk (j := 3) hPx.res
             have z4 := free_blk (j := 4) hPx.res
             have z5 := free_blk (j := 5) hPx.res
             have gE := ((HG.out.below hPx.bel).at_ 41 (by omega) (by omega)).glob
             have gL := (HG.out.at_ 41 (by omega) (by omega)).glt
             simp only [sgb] at gE gL
             have gN := Nat.ne_of_lt gL
             have gM := gN.symm
             clear hPx
             go_wp2_with fail
             go_region
             all_goals
              go_wp2_with fail
              obtain ⟨W5, hW5, hq, hbf⟩ := err_world HP9.out
              rw [hW5]
              clear hW5 r0 r1 r2 r3 r4 r5 z0 z1 z2 z3 z4 z5
              refine parse_ret hq rfl rfl ?_
              show ParseTo _ _ _ _ _
              unfold ParseTo
              rw [HRN.out]
              exact ⟨rfl, hbf⟩
           | some d =>
             rw [hrd] at hR
             obtain ⟨v9, rfl, hO9, hb9⟩ := hR
             have hds := read_sound hrd
             obtain ⟨A9, k9, rfl, hB9⟩ := hO9.bs hds.2
             have HP9 := Lib.hid (HP8.out.next hb9)
             have HF9 := Lib.hid (keepB hb9 HF8.out)
             have HO9 := Lib.hid hO9
             have f0 := cell_blk (j := 0) HF9.out rfl
             have f1 := cell_blk (j := 1) HF9.out rfl
             have f2 := cell_blk (j := 2) HF9.out rfl
             have f3 := cell_blk (j := 3) HF9.out rfl
             have f4 := cell_blk (j := 4) HF9.out rfl
             have HRD := Lib.hid hrd
             have HBD := Lib.hid hds.2
             clear hrd hds hb9 hO9 hB9 cs8 cy8
             go_wp2_with fail
             refine (size_any h.ver h.ty h.fl h.st h.ln _ (by omega) (by have := HO.out.ln; omega)).mono ?_
             rintro e w10 ⟨rfl, hb10⟩
             have hsz : szF (h.ty : Int) h.ln = h.ln := by unfold szF; rw [if_pos (by have := HTY.out; omega)]
             rw [hsz]
             have HP10 := Lib.hid (HP9.out.next hb10)
             have HF10 := Lib.hid (keepB hb10 HF9.out)
             have HO10 := Lib.hid (HO9.out.next hb10)
             clear hsz hb10 f0 f1 f2 f3 f4
             by_cases hdl : d.length = h.ln
             · have hdl' : ((d.length : Int) != h.ln) = false := by simp; omega
               have HRN : Hid (gparse line.data.toList = .ok (h, d)) := HGP.out _ (by rw [HRD.out]; exact if_neg (fun hc => hc hdl))
               have hz8 : w4.heap.size < w8.heap.size := (Array.getElem?_eq_some_iff.1 HF8.out).1
               have hz10 : w4.heap.size < w10.heap.size := (Array.getElem?_eq_some_iff.1 HF10.out).1
               have hP11 : PW w (w10.setCell ⟨w4.heap.size, 5, none⟩ (.slice A9 d.length k9)) [t] false := by
                refine ⟨HP10.out.ws.only (grown_set w10 w4.heap.size 5 _) hFlt, ?_, HP10.out.bel.setCell (p := ⟨w4.heap.size, 5, none⟩) (by show w.heap.size ≤ w4.heap.size; omega) _⟩
                rw [set_other _ (by omega)]; exact HP10.out.res
               have hF11 := set_blk (j := 5) (.slice A9 d.length k9) HF10.out
               have HP11 := Lib.hid hP11
               have HF11 := Lib.hid hF11
               have f5 := cell_blk (j := 5) HF10.out rfl
               have zF := free_blk (j := 5) HF10.out
               have f0 : (w10.setCell ⟨w4.heap.size, 5, none⟩ (.slice A9 d.length k9)).cell? ⟨w4.heap.size, 0, none⟩ = some (.int .u8 h.ver) := cell_blk hF11 rfl
               have f1 : (w10.setCell ⟨w4.heap.size, 5, none⟩ (.slice A9 d.length k9)).cell? ⟨w4.heap.size, 1, none⟩ = some (.int .u8 h.ty) := cell_blk hF11 rfl
               have f2 : (w10.setCell ⟨w4.heap.size, 5, none⟩ (.slice A9 d.length k9)).cell? ⟨w4.heap.size, 2, none⟩ = some (.int .u16 h.fl) := cell_blk hF11 rfl
               have f3 : (w10.setCell ⟨w4.heap.size, 5, none⟩ (.slice A9 d.length k9)).cell? ⟨w4.heap.size, 3, none⟩ = some (.int .u32 h.st) := cell_blk hF11 rfl
               have f4 : (w10.setCell ⟨w4.heap.size, 5, none⟩ (.slice A9 d.length k9)).cell? ⟨w4.heap.size, 4, none⟩ = some (.int .u32 h.ln) := cell_blk hF11 rfl
               have e0 := cell_blk (j := 0) HF10.out rfl
               have e1 := cell_blk (j := 1) HF10.out rfl
               have e2 := cell_blk (j := 2) HF10.out rfl
               have e3 := cell_blk (j := 3) HF10.out rfl
               have e4 := cell_blk (j := 4) HF10.out rfl
               have hn1 : w.heap.size ≠ w4.heap.size := by omega
               have hn2 : w4.heap.size ≠ w.heap.size := by omega
               clear hP11 hF11 hdl
               have hPx := HP10.out
               have r0 := cell_blk (j := 0) hPx.res rfl
               have r1 := cell_blk (j := 1) hPx.res rfl
               have r2 := cell_blk (j := 2) hPx.res rfl
               have r3 := cell_blk (j := 3) hPx.res rfl
               have r4 := cell_blk (j := 4) hPx.res rfl
               have r5 := cell_blk (j := 5) hPx.res rfl
               have z0 := free_blk (j := 0) hPx.res
               have z1 := free_blk (j := 1) hPx.res
               have z2 := free_blk (j := 2) hPx.res
               have z3 := free_blk (j := 3) hPx.res
               have z4 := free_blk (j := 4) hPx.res
               have z5 := free_blk (j := 5) hPx.res
               clear hPx
               go_wp2_with fail
               obtain ⟨W7, hW7, hq7, hbf, hoth⟩ := put_world HP11.out h.ver h.ty h.fl h.st h.ln (.slice A9 d.length k9)
               rw [hW7]
               clear hW7 r0 r1 r2 r3 r4 r5 z0 z1 z2 z3 z4 z5
               refine parse_ret hq7 rfl rfl ?_
               show ParseTo _ _ _ _ _
               unfold ParseTo
               rw [HRN.out]
               refine ⟨_, rfl, Own.keep (HO10.out.lower (by omega)) (fun k hk => ?_), hbf⟩
               have hkb := (HO10.out.blk k hk).1
               rw [hoth k (by omega), set_other _ (by omega)]
             · have hdl' : ((d.length : Int) != h.ln) = true := by rw [bne_iff_ne]; omega
               have HRN : Hid (gparse line.data.toList = .error 15) := HGP.out _ (by rw [HRD.out]; exact if_pos hdl)
               clear hdl
               have hPx := HP10.out
               have r0 := cell_blk (j := 0) hPx.res rfl
               have r1 := cell_blk (j := 1) hPx.res rfl
               have r2 := cell_blk (j := 2) hPx.res rfl
               have r3 := cell_blk (j := 3) hPx.res rfl
               have r4 := cell_blk (j := 4) hPx.res rfl
               have r5 := cell_blk (j := 5) hPx.res rfl
               have z0 := free_blk (j := 0) hPx.res
               have z1 := free_blk (j := 1) hPx.res
               have z2 := free_blk (j := 2) hPx.res
               have z3 := free_blk (j := 3) hPx.res
               have z4 := free_blk (j := 4) hPx.res
               have z5 := free_blk (j := 5) hPx.res
               have gE := ((HG.out.below hPx.bel).at_ 15 (by omega) (by omega)).glob
               have gL := (HG.out.at_ 15 (by omega) (by omega)).glt
               simp only [sgb] at gE gL
               have gN := Nat.ne_of_lt gL
               have gM := gN.symm
               clear hPx
               go_wp2_with fail
               go_region
               all_goals
                go_wp2_with fail
                obtain ⟨W5, hW5, hq, hbf⟩ := err_world HP10.out
                rw [hW5]
                clear hW5 r0 r1 r2 r3 r4 r5 z0 z1 z2 z3 z4 z5
                refine parse_ret hq rfl rfl ?_
                show ParseTo _ _ _ _ _
                unfold ParseTo
                rw [HRN.out]
                exact ⟨rfl, hbf⟩
         · have hq : (J.toList == line.toList) = false := by rw [HJT.out, HLT.out]; exact beq_eq_false_iff_ne.2 hl
           have HRN : Hid (gparse line.data.toList = .error 41) := by
            show gparse _ = _
            unfold gparse
            simp only [HWS.out, List.headD_cons, HH.out, HK.out]
            rw [if_neg (by decide), if_neg (by decide), if_neg (fun hc => hc HTY.out), if_neg (by simp), if_pos hl]
           clear hl
           go_wp2_with fail
           rw [← HW5.out]
           refine start_ (n := 21) (S := fun w' => w'.cell? ⟨w.heap.size + 1 + 1, 0, none⟩ = some (.slice (some ⟨g5, o5, none⟩) 1 c5) ∧ w'.cell? ⟨g5, o5, none⟩ = some (.string Y) ∧ w'.cell? ⟨w4.heap.size, 0, none⟩ = some (.int .u8 h.ver) ∧ w'.cell? ⟨w4.heap.size, 1, none⟩ = some (.int .u8 h.ty) ∧ w'.cell? ⟨w4.heap.size, 2, none⟩ = some (.int .u16 h.fl) ∧ w'.cell? ⟨w4.heap.size, 3, none⟩ = some (.int .u32 h.st) ∧ w'.cell? ⟨w4.heap.size, 4, none⟩ = some (.int .u32 h.ln) ∧ Hid (Below W5.heap.size W5 w')) (ds := []) (bM 21 0) (by kernel_rfl) rfl rfl (⟨HCS.out, HCY.out, cell_blk HF5.out rfl, cell_blk HF5.out rfl, cell_blk HF5.out rfl, cell_blk HF5.out rfl, cell_blk HF5.out rfl, Lib.hid (Below.refl _ _).drew⟩) (fun hHeld => ?_)
           refine pu_ 0 53 ?_ (bM 21 1) rfl rfl (by kernel_rfl) (.inl ⟨by rfl, ?_⟩) ?_ ?_ ?_; rotate_left
           · intro w'; go_simp; with_reducible rfl
           rotate_left
           · simp only [pA_, i64_w]; rfl
           refine pu_ 1 54 ?_ (bM 21 3) rfl rfl (by kernel_rfl) (.inl ⟨by rfl, ?_⟩) ?_ ?_ ?_; rotate_left
           · intro w'; go_simp; with_reducible rfl
           rotate_left
           · simp only [pA_, i64_w]; rfl
           refine pu_ 2 55 ?_ (bM 21 7) rfl rfl (by kernel_rfl) (.inl ⟨by rfl, ?_⟩) ?_ ?_ ?_; rotate_left
           · intro w'; go_simp; with_reducible rfl
           rotate_left
           · simp only [pA_, i64_w]; rfl
           refine tk_ 3 56 ?_ (bM 21 15) rfl rfl (by kernel_rfl) (.inl ⟨by rfl, ?_⟩) hHeld ?_ ?_ ?_; rotate_left
           · rintro w' ⟨s0, s1, s2, s3, s4, s5, s6, s7⟩; go_simp; with_reducible rfl
           rotate_left
           · simp only [pA_, i64_w]; rfl
           refine pu_ 4 57 ?_ (bM 21 31) rfl rfl (by kernel_rfl) (.inl ⟨by rfl, ?_⟩) ?_ ?_ ?_; rotate_left
           · intro w'; go_simp; with_reducible rfl
           rotate_left
           · simp only [pA_, i64_w]; rfl
           refine pu_ 5 58 ?_ (bM 21 63) rfl rfl (by kernel_rfl) (.inl ⟨by rfl, ?_⟩) ?_ ?_ ?_; rotate_left
           · intro w'; go_simp; with_reducible rfl
           rotate_left
           · simp only [pA_, i64_w]; rfl
           refine pu_ 6 59 ?_ (bM 21 127) rfl rfl (by kernel_rfl) (.inl ⟨by rfl, ?_⟩) ?_ ?_ ?_; rotate_left
           · intro w'; go_simp; with_reducible rfl
           rotate_left
           · simp only [pA_, i64_w]; rfl
           refine pu_ 7 60 ?_ (bM 21 255) rfl rfl (by kernel_rfl) (.inl ⟨by rfl, ?_⟩) ?_ ?_ ?_; rotate_left
           · intro w'; go_simp; with_reducible rfl
           rotate_left
           · simp only [pA_, i64_w]; rfl
           refine pu_ 10 63 ?_ (bM 21 1279) rfl rfl (by kernel_rfl) (.inl ⟨by rfl, ?_⟩) ?_ ?_ ?_; rotate_left
           · intro w'; go_simp; with_reducible rfl
           rotate_left
           · simp only [pA_, i64_w]; rfl
           refine pu_ 11 64 ?_ (bM 21 3327) rfl rfl (by kernel_rfl) (.inl ⟨by rfl, ?_⟩) ?_ ?_ ?_; rotate_left
           · intro w'; go_simp; with_reducible rfl
           rotate_left
           · simp only [pA_, i64_w]; rfl
           refine pu_ 12 65 ?_ (bM 21 7423) rfl rfl (by kernel_rfl) (.inl ⟨by rfl, ?_⟩) ?_ ?_ ?_; rotate_left
           · intro w'; go_simp; with_reducible rfl
           rotate_left
           · simp only [pA_, i64_w]; rfl
           refine pu_ 18 71 ?_ (bM 21 269567) rfl rfl (by kernel_rfl) (.inl ⟨by rfl, ?_⟩) ?_ ?_ ?_; rotate_left
           · intro w'; go_simp; with_reducible rfl
           rotate_left
           · simp only [pA_, i64_w]; rfl
           refine tk_ 8 61 ?_ (bM 21 269823) rfl rfl (by kernel_rfl) (.inl ⟨by rfl, ?_⟩) hHeld ?_ ?_ ?_; rotate_left
           · rintro w' ⟨s0, s1, s2, s3, s4, s5, s6, s7⟩; go_simp; with_reducible rfl
           rotate_left
           · simp only [pA_, i64_w]; rfl
           refine tk_ 13 66 ?_ (bM 21 278015) rfl rfl (by kernel_rfl) (.inl ⟨by rfl, ?_⟩) hHeld ?_ ?_ ?_; rotate_left
           · rintro w' ⟨s0, s1, s2, s3, s4, s5, s6, s7⟩; go_simp; with_reducible rfl
           rotate_left
           · simp only [pA_, i64_w]; rfl
           refine pu_ 14 67 ?_ (bM 21 294399) rfl rfl (by kernel_rfl) (.inl ⟨by rfl, ?_⟩) ?_ ?_ ?_; rotate_left
           · intro w'; go_simp; with_reducible rfl
           rotate_left
           · simp only [pA_, i64_w]; rfl
           refine tk_ 15 68 ?_ (bM 21 327167) rfl rfl (by kernel_rfl) (.inl ⟨by rfl, ?_⟩) hHeld ?_ ?_ ?_; rotate_left
           · rintro w' ⟨s0, s1, s2, s3, s4, s5, s6, s7⟩; go_simp; with_reducible rfl
           rotate_left
           · simp only [pA_, i64_w]; rfl
           refine one_ (i := 9) (N := some 62) (bM 21 327679) rfl rfl (by kernel_rfl) (by decide) (fun K hK => ?_)
           refine goes_ Tryz.func48 (by kernel_rfl) rfl #[hdr h.ver h.ty h.fl h.st h.ln] (by rfl) rfl rfl (by simp only [List.map_toArray, List.map_cons, List.map_nil]; rfl) ?_
           with_reducible refine (HTX.out _ (belowT HP5.out.bel hHeld.2.2.2.2.2.2.2.out)).mono ?_
           rintro e w6 ⟨rfl, hb6⟩
           refine ⟨_, rfl, ?_⟩
           have HB6 := Lib.hid hb6
           clear hb6
           refine hK.out _ _ (⟨keepA HB6.out hHeld.1, keepA HB6.out hHeld.2.1, keepA HB6.out hHeld.2.2.1, keepA HB6.out hHeld.2.2.2.1, keepA HB6.out hHeld.2.2.2.2.1, keepA HB6.out hHeld.2.2.2.2.2.1, keepA HB6.out hHeld.2.2.2.2.2.2.1, Lib.hid (belowT hHeld.2.2.2.2.2.2.2.out HB6.out)⟩) (fun hHeld => ?_)
           clear hK K
           refine norm_ (a' := ?_) ?_ ?_
           rotate_left
           · show Act.put _ (some 62) _ = _
             simp only [pA_, i64_w]
             rfl
           refine one_ (i := 16) (N := some 69) (bM 21 393215) rfl rfl (by kernel_rfl) (by decide) (fun K hK => ?_)
           refine value_ (w1 := ?_) (v := ?_) (by rfl) rfl ?_ ?_
           rotate_left 2
           · go_simp
             constructor
             · rfl
             · rfl
           refine hK.out _ _ (⟨keepA ba_ hHeld.1, keepA ba_ hHeld.2.1, keepA ba_ hHeld.2.2.1, keepA ba_ hHeld.2.2.2.1, keepA ba_ hHeld.2.2.2.2.1, keepA ba_ hHeld.2.2.2.2.2.1, keepA ba_ hHeld.2.2.2.2.2.2.1, Lib.hid (belowT hHeld.2.2.2.2.2.2.2.out ba_)⟩) (fun hHeld => ?_)
           clear hK K
           refine norm_ (a' := ?_) ?_ ?_
           rotate_left
           · show Act.put _ (some 69) _ = _
             simp only [pA_, i64_w]
             rfl
           refine one_ (i := 17) (N := some 70) (bM 21 524287) rfl rfl (by kernel_rfl) (by decide) (fun K hK => ?_)
           refine goes_ Tryz.func49 (by kernel_rfl) rfl #[.slice (some ⟨w6.heap.size, 0, none⟩) 2 2] (by rfl) rfl rfl (by simp only [List.map_toArray, List.map_cons, List.map_nil]; rfl) ?_
           with_reducible refine (HJN.out w6).mono ?_
           rintro e w8 ⟨rfl, hb8⟩
           refine ⟨_, rfl, ?_⟩
           have HB8 := Lib.hid hb8
           clear hb8
           refine hK.out _ _ (⟨keepA HB8.out hHeld.1, keepA HB8.out hHeld.2.1, keepA HB8.out hHeld.2.2.1, keepA HB8.out hHeld.2.2.2.1, keepA HB8.out hHeld.2.2.2.2.1, keepA HB8.out hHeld.2.2.2.2.2.1, keepA HB8.out hHeld.2.2.2.2.2.2.1, Lib.hid (belowT hHeld.2.2.2.2.2.2.2.out HB8.out)⟩) (fun hHeld => ?_)
           clear hK K
           refine norm_ (a' := ?_) ?_ ?_
           rotate_left
           · show Act.put _ (some 70) _ = _
             simp only [pA_, i64_w]
             rfl
           refine pu_ 19 72 ?_ (bM 21 1048575) rfl rfl (by kernel_rfl) (.inl ⟨by rfl, ?_⟩) ?_ ?_ ?_; rotate_left
           · intro w'; go_simp; with_reducible rfl
           rotate_left
           · simp only [pA_, i64_w]; rfl
           refine pu_ 20 73 ?_ (bM 21 2097151) rfl rfl (by kernel_rfl) (.inl ⟨by rfl, ?_⟩) ?_ ?_ ?_; rotate_left
           · intro w'; go_simp; with_reducible rfl
           rotate_left
           · simp only [pA_, i64_w]; rfl
           refine done_ (by kernel_rfl) ?_
           have HP8 := Lib.hid (HP5.out.next hHeld.2.2.2.2.2.2.2.out)
           have hPx := HP8.out
           have r0 := cell_blk (j := 0) hPx.res rfl
           have r1 := cell_blk (j := 1) hPx.res rfl
           have r2 := cell_blk (j := 2) hPx.res rfl
           have r3 := cell_blk (j := 3) hPx.res rfl
           have r4 := cell_blk (j := 4) hPx.res rfl
           have r5 := cell_blk (j := 5) hPx.res rfl
           have z0 := free_blk (j := 0) hPx.res
           have z1 := free_blk (j := 1) hPx.res
           have z2 := free_blk (j := 2) hPx.res
           have z3 := free_blk (j := 3) hPx.res
           have z4 := free_blk (j := 4) hPx.res
           have z5 := free_blk (j := 5) hPx.res
           have gE := ((HG.out.below hPx.bel).at_ 41 (by omega) (by omega)).glob
           have gL := (HG.out.at_ 41 (by omega) (by omega)).glt
           simp only [sgb] at gE gL
           have gN := Nat.ne_of_lt gL
           have gM := gN.symm
           clear hPx
           go_wp2_with fail
           go_region
           all_goals
            go_wp2_with fail
            obtain ⟨W5, hW5, hq, hbf⟩ := err_world HP8.out
            rw [hW5]
            clear hW5 r0 r1 r2 r3 r4 r5 z0 z1 z2 z3 z4 z5
            refine parse_ret hq rfl rfl ?_
            show ParseTo _ _ _ _ _
            unfold ParseTo
            rw [HRN.out]
            exact ⟨rfl, hbf⟩
       · have HRN : Hid (gparse line.data.toList = .error 41) := by
           show gparse _ = _
           unfold gparse
           simp only [HWS.out, List.headD_cons, HH.out, HK.out]
           rw [if_neg (by decide), if_neg (by decide), if_neg (fun hc => hc ht), if_pos hlen]
         have cs : W5.cell? ⟨w.heap.size + 1 + 1, 0, none⟩ = some (.slice (some ⟨g5, o5, none⟩) left.length c5) := cell_blk hS5.blk rfl
         have HCS := Lib.hid cs
         have hln : ((left.length : Int) != 1) = true := by rw [bne_iff_ne]; omega
         clear hlen ht cs hS5
         go_wp2_with fail
         rw [← HW5.out]
         refine start_ (n := 21) (S := fun w' => w'.cell? ⟨w.heap.size + 1 + 1, 0, none⟩ = some (.slice (some ⟨g5, o5, none⟩) left.length c5)) (ds := []) (bM 21 0) (by kernel_rfl) rfl rfl (HCS.out) (fun hHeld => ?_)
         refine pu_ 0 53 ?_ (bM 21 1) rfl rfl (by kernel_rfl) (.inl ⟨by rfl, ?_⟩) ?_ ?_ ?_; rotate_left
         · intro w'; go_simp; with_reducible rfl
         rotate_left
         · simp only [pA_, i64_w]; rfl
         refine pu_ 1 54 ?_ (bM 21 3) rfl rfl (by kernel_rfl) (.inl ⟨by rfl, ?_⟩) ?_ ?_ ?_; rotate_left
         · intro w'; go_simp; with_reducible rfl
         rotate_left
         · simp only [pA_, i64_w]; rfl
         refine pu_ 2 55 ?_ (bM 21 7) rfl rfl (by kernel_rfl) (.inl ⟨by rfl, ?_⟩) ?_ ?_ ?_; rotate_left
         · intro w'; go_simp; with_reducible rfl
         rotate_left
         · simp only [pA_, i64_w]; rfl
         refine tk_ 3 56 ?_ (bM 21 15) rfl rfl (by kernel_rfl) (.inl ⟨by rfl, ?_⟩) hHeld ?_ ?_ ?_
         rotate_left
         · intro w' s0
           go_simp
           with_reducible rfl
         rotate_left
         · simp only [pA_, i64_w]
           rfl
         refine pu_ 4 57 ?_ (bM 21 31) rfl rfl (by kernel_rfl) (.inl ⟨by rfl, ?_⟩) ?_ ?_ ?_; rotate_left
         · intro w'; go_simp; with_reducible rfl
         rotate_left
         · simp only [pA_, i64_w]; rfl
         refine pu_ 5 58 ?_ (bM 21 63) rfl rfl (by kernel_rfl) (.inl ⟨by rfl, ?_⟩) ?_ ?_ ?_; rotate_left
         · intro w'; go_simp; with_reducible rfl
         rotate_left
         · simp only [pA_, i64_w]; rfl
         refine pu_ 6 59 ?_ (bM 21 127) rfl rfl (by kernel_rfl) (.inl ⟨by rfl, ?_⟩) ?_ ?_ ?_; rotate_left
         · intro w'; go_simp; with_reducible rfl
         rotate_left
         · simp only [pA_, i64_w]; rfl
         refine pure_ (i := 7) (N := some 60) (v := undef) (a' := ?_) (bM 21 255) rfl rfl (by kernel_rfl) (fun _ _ _ h => h) (Or.inr ⟨by rfl, rfl⟩) ?_ ?_
         rotate_left
         · simp only [pA_, i64_w]
           rfl
         refine pure_ (i := 8) (N := some 61) (v := undef) (a' := ?_) (bM 21 511) rfl rfl (by kernel_rfl) (fun _ _ _ h => h) (Or.inr ⟨by rfl, rfl⟩) ?_ ?_
         rotate_left
         · simp only [pA_, i64_w]
           rfl
         refine pure_ (i := 9) (N := some 62) (v := undef) (a' := ?_) (bM 21 1023) rfl rfl (by kernel_rfl) (fun _ _ _ h => h) (Or.inr ⟨by rfl, rfl⟩) ?_ ?_
         rotate_left
         · simp only [pA_, i64_w]
           rfl
         refine pure_ (i := 10) (N := some 63) (v := undef) (a' := ?_) (bM 21 2047) rfl rfl (by kernel_rfl) (fun _ _ _ h => h) (Or.inr ⟨by rfl, rfl⟩) ?_ ?_
         rotate_left
         · simp only [pA_, i64_w]
           rfl
         refine pure_ (i := 11) (N := some 64) (v := undef) (a' := ?_) (bM 21 4095) rfl rfl (by kernel_rfl) (fun _ _ _ h => h) (Or.inr ⟨by rfl, rfl⟩) ?_ ?_
         rotate_left
         · simp only [pA_, i64_w]
           rfl
         refine pure_ (i := 12) (N := some 65) (v := undef) (a' := ?_) (bM 21 8191) rfl rfl (by kernel_rfl) (fun _ _ _ h => h) (Or.inr ⟨by rfl, rfl⟩) ?_ ?_
         rotate_left
         · simp only [pA_, i64_w]
           rfl
         refine pure_ (i := 13) (N := some 66) (v := undef) (a' := ?_) (bM 21 16383) rfl rfl (by kernel_rfl) (fun _ _ _ h => h) (Or.inr ⟨by rfl, rfl⟩) ?_ ?_
         rotate_left
         · simp only [pA_, i64_w]
           rfl
         refine pure_ (i := 14) (N := some 67) (v := undef) (a' := ?_) (bM 21 32767) rfl rfl (by kernel_rfl) (fun _ _ _ h => h) (Or.inr ⟨by rfl, rfl⟩) ?_ ?_
         rotate_left
         · simp only [pA_, i64_w]
           rfl
         refine pure_ (i := 15) (N := some 68) (v := undef) (a' := ?_) (bM 21 65535) rfl rfl (by kernel_rfl) (fun _ _ _ h => h) (Or.inr ⟨by rfl, rfl⟩) ?_ ?_
         rotate_left
         · simp only [pA_, i64_w]
           rfl
         refine pure_ (i := 16) (N := some 69) (v := undef) (a' := ?_) (bM 21 131071) rfl rfl (by kernel_rfl) (fun _ _ _ h => h) (Or.inr ⟨by rfl, rfl⟩) ?_ ?_
         rotate_left
         · simp only [pA_, i64_w]
           rfl
         refine pure_ (i := 17) (N := some 70) (v := undef) (a' := ?_) (bM 21 262143) rfl rfl (by kernel_rfl) (fun _ _ _ h => h) (Or.inr ⟨by rfl, rfl⟩) ?_ ?_
         rotate_left
         · simp only [pA_, i64_w]
           rfl
         refine pure_ (i := 18) (N := some 71) (v := undef) (a' := ?_) (bM 21 524287) rfl rfl (by kernel_rfl) (fun _ _ _ h => h) (Or.inr ⟨by rfl, rfl⟩) ?_ ?_
         rotate_left
         · simp only [pA_, i64_w]
           rfl
         refine pure_ (i := 19) (N := some 72) (v := undef) (a' := ?_) (bM 21 1048575) rfl rfl (by kernel_rfl) (fun _ _ _ h => h) (Or.inr ⟨by rfl, rfl⟩) ?_ ?_
         rotate_left
         · simp only [pA_, i64_w]
           rfl
         refine pu_ 20 73 ?_ (bM 21 2097151) rfl rfl (by kernel_rfl) (.inl ⟨by rfl, ?_⟩) ?_ ?_ ?_; rotate_left
         · intro w'; go_simp; with_reducible rfl
         rotate_left
         · simp only [pA_, i64_w]; rfl
         refine done_ (by kernel_rfl) ?_
         obtain ⟨W8, hW8⟩ : ∃ W8, W8 = W5.drew := ⟨_, rfl⟩
         have HP8 : Hid (PW w W8 left false) := by rw [hW8]; exact HP5.out.next (Below.refl _ _).drew
         rw [← hW8]
         clear hW8
         have hPx := HP8.out
         have r0 := cell_blk (j := 0) hPx.res rfl
         have r1 := cell_blk (j := 1) hPx.res rfl
         have r2 := cell_blk (j := 2) hPx.res rfl
         have r3 := cell_blk (j := 3) hPx.res rfl
         have r4 := cell_blk (j := 4) hPx.res rfl
         have r5 := cell_blk (j := 5) hPx.res rfl
         have z0 := free_blk (j := 0) hPx.res
         have z1 := free_blk (j := 1) hPx.res
         have z2 := free_blk (j := 2) hPx.res
         have z3 := free_blk (j := 3) hPx.res
         have z4 := free_blk (j := 4) hPx.res
         have z5 := free_blk (j := 5) hPx.res
         have gE := ((HG.out.below hPx.bel).at_ 41 (by omega) (by omega)).glob
         have gL := (HG.out.at_ 41 (by omega) (by omega)).glt
         simp only [sgb] at gE gL
         have gN := Nat.ne_of_lt gL
         have gM := gN.symm
         clear hPx
         go_wp2_with fail
         go_region
         all_goals
          go_wp2_with fail
          obtain ⟨W5, hW5, hq, hbf⟩ := err_world HP8.out
          rw [hW5]
          clear hW5 r0 r1 r2 r3 r4 r5 z0 z1 z2 z3 z4 z5
          refine parse_ret hq rfl rfl ?_
          show ParseTo _ _ _ _ _
          unfold ParseTo
          rw [HRN.out]
          exact ⟨rfl, hbf⟩
     · have ht' : ((h.ty : Int) != 0) = true := by simp; omega
       have HTY := Lib.hid ht
       clear ht
       go_wp2_with fail
       rw [← HW5.out]
       refine (HTX.out _ HP5.out.bel).mono ?_
       rintro e w6 ⟨rfl, hb6⟩
       have HP6 := Lib.hid (HP5.out.next hb6)
       have HF6 := Lib.hid (keepB hb6 HF5.out)
       clear hb6 c1 e0 e1 e2 e3 e4
       by_cases hl : textH h = line.data.toList
       · have hq : (T.toList == line.toList) = true := by rw [HTT.out, HLT.out, hl]; simp
         have HRN : Hid (gparse line.data.toList = .ok (h, [])) := by
          show gparse _ = _
          unfold gparse
          simp only [HWS.out, List.headD_cons, HH.out, HK.out]
          rw [if_neg (by decide), if_neg (by decide), if_pos HTY.out, if_neg (fun hc => hc hl)]
         clear hl
         have f0 := cell_blk (j := 0) HF6.out rfl
         have f1 := cell_blk (j := 1) HF6.out rfl
         have f2 := cell_blk (j := 2) HF6.out rfl
         have f3 := cell_blk (j := 3) HF6.out rfl
         have f4 := cell_blk (j := 4) HF6.out rfl
         have f5 := cell_blk (j := 5) HF6.out rfl
         have hPx := HP6.out
         have r0 := cell_blk (j := 0) hPx.res rfl
         have r1 := cell_blk (j := 1) hPx.res rfl
         have r2 := cell_blk (j := 2) hPx.res rfl
         have r3 := cell_blk (j := 3) hPx.res rfl
         have r4 := cell_blk (j := 4) hPx.res rfl
         have r5 := cell_blk (j := 5) hPx.res rfl
         have z0 := free_blk (j := 0) hPx.res
         have z1 := free_blk (j := 1) hPx.res
         have z2 := free_blk (j := 2) hPx.res
         have z3 := free_blk (j := 3) hPx.res
         have z4 := free_blk (j := 4) hPx.res
         have z5 := free_blk (j := 5) hPx.res
         clear hPx
         go_wp2_with fail
         obtain ⟨W7, hW7, hq7, hbf, _⟩ := put_world HP6.out h.ver h.ty h.fl h.st h.ln nilS
         rw [hW7]
         clear hW7 r0 r1 r2 r3 r4 r5 z0 z1 z2 z3 z4 z5
         refine parse_ret hq7 rfl rfl ?_
         show ParseTo _ _ _ _ _
         unfold ParseTo
         rw [HRN.out]
         exact ⟨_, rfl, World.ownsRow_nil _ _ _ _, hbf⟩
       · have hq : (T.toList == line.toList) = false := by rw [HTT.out, HLT.out]; exact beq_eq_false_iff_ne.2 hl
         have HRN : Hid (gparse line.data.toList = .error 41) := by
          show gparse _ = _
          unfold gparse
          simp only [HWS.out, List.headD_cons, HH.out, HK.out]
          rw [if_neg (by decide), if_neg (by decide), if_pos HTY.out, if_pos hl]
         clear hl
         have hPx := HP6.out
         have r0 := cell_blk (j := 0) hPx.res rfl
         have r1 := cell_blk (j := 1) hPx.res rfl
         have r2 := cell_blk (j := 2) hPx.res rfl
         have r3 := cell_blk (j := 3) hPx.res rfl
         have r4 := cell_blk (j := 4) hPx.res rfl
         have r5 := cell_blk (j := 5) hPx.res rfl
         have z0 := free_blk (j := 0) hPx.res
         have z1 := free_blk (j := 1) hPx.res
         have z2 := free_blk (j := 2) hPx.res
         have z3 := free_blk (j := 3) hPx.res
         have z4 := free_blk (j := 4) hPx.res
         have z5 := free_blk (j := 5) hPx.res
         have gE := ((HG.out.below hPx.bel).at_ 41 (by omega) (by omega)).glob
         have gL := (HG.out.at_ 41 (by omega) (by omega)).glt
         simp only [sgb] at gE gL
         have gN := Nat.ne_of_lt gL
         have gM := gN.symm
         clear hPx
         go_wp2_with fail
         go_region
         all_goals
          go_wp2_with fail
          obtain ⟨W5, hW5, hq, hbf⟩ := err_world HP6.out
          rw [hW5]
          clear hW5 r0 r1 r2 r3 r4 r5 z0 z1 z2 z3 z4 z5
          refine parse_ret hq rfl rfl ?_
          show ParseTo _ _ _ _ _
          unfold ParseTo
          rw [HRN.out]
          exact ⟨rfl, hbf⟩
 · have hx : x ≠ wType := fun e => hk (by rw [e]; rfl)
   have hkb : kindB X.data.toList = false := by
    rw [HXL.out]
    cases h : kindB x with
    | true => exact absurd (by rw [h]; simp) hk
    | false => rfl
   have hq : (X.toList == [116, 121, 112, 101]) = false := by rw [HXT.out]; exact beq_eq_false_iff_ne.2 hx
   have HRN : Hid (gparse line.data.toList = .error 40) := by
    show gparse _ = _
    rw [gparse_40, HWS.out]
    exact Bool.eq_false_iff.2 hk
   clear hx hk
   go_wp2_with fail
   rw [show ((w1.alloc (.cells pc.toArray 9)).alloc (.cells #[.slice (some ⟨w.heap.size + 1, 0, none⟩) (r.length + 1) (r.length + 1), .bool false] 104)) = w2 from HE2.out.symm]
   refine start_ (n := 18) (S := fun w' => w'.cell? ⟨w.heap.size + 1 + 1, 0, none⟩ = some (.slice (some ⟨w.heap.size + 1, 0, none⟩) (r.length + 1) (r.length + 1)) ∧ w'.cell? ⟨w.heap.size + 1, 0, none⟩ = some (.string X) ∧ Hid (Below w2.heap.size w2 w')) (ds := []) (bM 18 0) (by kernel_rfl) rfl rfl (⟨HC0.out, HCX.out, Lib.hid (Below.refl _ _).drew⟩) (fun hHeld => ?_)
   refine pu_ 0 12 ?_ (bM 18 1) rfl rfl (by kernel_rfl) (.inl ⟨by rfl, ?_⟩) ?_ ?_ ?_; rotate_left
   · intro w'; go_simp; with_reducible rfl
   rotate_left
   · simp only [pA_, i64_w]; rfl
   refine pu_ 1 13 ?_ (bM 18 3) rfl rfl (by kernel_rfl) (.inl ⟨by rfl, ?_⟩) ?_ ?_ ?_; rotate_left
   · intro w'; go_simp; with_reducible rfl
   rotate_left
   · simp only [pA_, i64_w]; rfl
   refine pu_ 2 14 ?_ (bM 18 7) rfl rfl (by kernel_rfl) (.inl ⟨by rfl, ?_⟩) ?_ ?_ ?_; rotate_left
   · intro w'; go_simp; with_reducible rfl
   rotate_left
   · simp only [pA_, i64_w]; rfl
   refine tk_ 3 15 ?_ (bM 18 15) rfl rfl (by kernel_rfl) (.inl ⟨by rfl, ?_⟩) hHeld ?_ ?_ ?_; rotate_left
   · rintro w' ⟨s0, s1, s2⟩; go_simp; with_reducible rfl
   rotate_left
   · simp only [pA_, i64_w]; rfl
   refine pu_ 4 16 ?_ (bM 18 31) rfl rfl (by kernel_rfl) (.inl ⟨by rfl, ?_⟩) ?_ ?_ ?_; rotate_left
   · intro w'; go_simp; with_reducible rfl
   rotate_left
   · simp only [pA_, i64_w]; rfl
   refine tk_ 5 17 ?_ (bM 18 63) rfl rfl (by kernel_rfl) (.inl ⟨by rfl, ?_⟩) hHeld ?_ ?_ ?_; rotate_left
   · rintro w' ⟨s0, s1, s2⟩; go_simp; with_reducible rfl
   rotate_left
   · simp only [pA_, i64_w]; rfl
   refine pu_ 6 18 ?_ (bM 18 127) rfl rfl (by kernel_rfl) (.inl ⟨by rfl, ?_⟩) ?_ ?_ ?_; rotate_left
   · intro w'; go_simp; with_reducible rfl
   rotate_left
   · simp only [pA_, i64_w]; rfl
   refine pu_ 7 19 ?_ (bM 18 255) rfl rfl (by kernel_rfl) (.inl ⟨by rfl, ?_⟩) ?_ ?_ ?_; rotate_left
   · intro w'; go_simp; with_reducible rfl
   rotate_left
   · simp only [pA_, i64_w]; rfl
   refine pu_ 9 21 ?_ (bM 18 767) rfl rfl (by kernel_rfl) (.inl ⟨by rfl, ?_⟩) ?_ ?_ ?_; rotate_left
   · intro w'; go_simp; with_reducible rfl
   rotate_left
   · simp only [pA_, i64_w]; rfl
   refine pu_ 10 22 ?_ (bM 18 1791) rfl rfl (by kernel_rfl) (.inl ⟨by rfl, ?_⟩) ?_ ?_ ?_; rotate_left
   · intro w'; go_simp; with_reducible rfl
   rotate_left
   · simp only [pA_, i64_w]; rfl
   refine pu_ 11 23 ?_ (bM 18 3839) rfl rfl (by kernel_rfl) (.inl ⟨by rfl, ?_⟩) ?_ ?_ ?_; rotate_left
   · intro w'; go_simp; with_reducible rfl
   rotate_left
   · simp only [pA_, i64_w]; rfl
   refine tk_ 12 24 ?_ (bM 18 7935) rfl rfl (by kernel_rfl) (.inl ⟨by rfl, ?_⟩) hHeld ?_ ?_ ?_; rotate_left
   · rintro w' ⟨s0, s1, s2⟩; go_simp; with_reducible rfl
   rotate_left
   · simp only [pA_, i64_w]; rfl
   refine pu_ 13 25 ?_ (bM 18 16127) rfl rfl (by kernel_rfl) (.inl ⟨by rfl, ?_⟩) ?_ ?_ ?_; rotate_left
   · intro w'; go_simp; with_reducible rfl
   rotate_left
   · simp only [pA_, i64_w]; rfl
   refine tk_ 14 26 ?_ (bM 18 32511) rfl rfl (by kernel_rfl) (.inl ⟨by rfl, ?_⟩) hHeld ?_ ?_ ?_; rotate_left
   · rintro w' ⟨s0, s1, s2⟩; go_simp; with_reducible rfl
   rotate_left
   · simp only [pA_, i64_w]; rfl
   refine one_ (i := 8) (N := some 20) (bM 18 32767) rfl rfl (by kernel_rfl) (by decide) (fun K hK => ?_)
   refine goes_ Tryz.func59 (by kernel_rfl) rfl #[] (by rfl) rfl rfl (by simp only [List.map_toArray, List.map_nil]) ?_
   with_reducible refine (kinds_any _).mono ?_
   rintro e w3 ⟨rfl, hw3⟩
   refine ⟨_, rfl, ?_⟩
   have hb3 : Below w2.drew.heap.size w2.drew w3 := by rw [hw3]; exact (Below.refl _ _).alloc (Nat.le_refl _) _
   have hKA : KindsAt w3 w2.drew.heap.size := by rw [hw3]; exact KindsAt.new _
   have HKA := Lib.hid hKA
   have HB3 := Lib.hid hb3
   clear hw3 hb3 hKA
   refine hK.out _ _ (⟨keepA HB3.out hHeld.1, keepA HB3.out hHeld.2.1, Lib.hid (belowT hHeld.2.2.out HB3.out)⟩) (fun hHeld => ?_)
   clear hK K
   refine norm_ (a' := ?_) ?_ ?_
   rotate_left
   · show Act.put _ (some 20) _ = _
     simp only [pA_, i64_w]
     rfl
   refine one_ (i := 15) (N := some 27) (bM 18 65535) rfl rfl (by kernel_rfl) (by decide) (fun K hK => ?_)
   refine goes_ Tryz.func58 (by kernel_rfl) rfl #[.slice (some ⟨w2.drew.heap.size, 0, none⟩) 4 4, .string X] (by rfl) rfl rfl (by simp only [List.map_toArray, List.map_cons, List.map_nil]; rfl) ?_
   with_reducible refine (kindHas_any HKA.out).mono ?_
   rintro e w4 ⟨rfl, hw4⟩
   refine ⟨_, rfl, ?_⟩
   subst hw4
   rw [hkb]
   refine hK.out _ _ (hHeld) (fun hHeld => ?_)
   clear hK K
   refine norm_ (a' := ?_) ?_ ?_
   rotate_left
   · show Act.put _ (some 27) _ = _
     simp only [pA_, i64_w]
     rfl
   refine pu_ 16 28 ?_ (bM 18 131071) rfl rfl (by kernel_rfl) (.inl ⟨by rfl, ?_⟩) ?_ ?_ ?_; rotate_left
   · intro w'; go_simp; with_reducible rfl
   rotate_left
   · simp only [pA_, i64_w]; rfl
   refine pu_ 17 29 ?_ (bM 18 262143) rfl rfl (by kernel_rfl) (.inl ⟨by rfl, ?_⟩) ?_ ?_ ?_; rotate_left
   · intro w'; go_simp; with_reducible rfl
   rotate_left
   · simp only [pA_, i64_w]; rfl
   refine done_ (by kernel_rfl) ?_
   have hPx := (HPW.out.next hHeld.2.2.out)
   have r0 := cell_blk (j := 0) hPx.res rfl
   have r1 := cell_blk (j := 1) hPx.res rfl
   have r2 := cell_blk (j := 2) hPx.res rfl
   have r3 := cell_blk (j := 3) hPx.res rfl
   have r4 := cell_blk (j := 4) hPx.res rfl
   have r5 := cell_blk (j := 5) hPx.res rfl
   have z0 := free_blk (j := 0) hPx.res
   have z1 := free_blk (j := 1) hPx.res
   have z2 := free_blk (j := 2) hPx.res
   have z3 := free_blk (j := 3) hPx.res
   have z4 := free_blk (j := 4) hPx.res
   have z5 := free_blk (j := 5) hPx.res
   have gE := ((HG.out.below hPx.bel).at_ 40 (by omega) (by omega)).glob
   have gL := (HG.out.at_ 40 (by omega) (by omega)).glt
   simp only [sgb] at gE gL
   have gN := Nat.ne_of_lt gL
   have gM := gN.symm
   clear hPx
   go_wp2_with fail
   go_region
   all_goals
    go_wp2_with fail
    obtain ⟨W5, hW5, hq, hbf⟩ := err_world (HPW.out.next hHeld.2.2.out)
    rw [hW5]
    clear hW5 r0 r1 r2 r3 r4 r5 z0 z1 z2 z3 z4 z5
    refine parse_ret hq rfl rfl ?_
    show ParseTo _ _ _ _ _
    unfold ParseTo
    rw [HRN.out]
    exact ⟨rfl, hbf⟩
end Go.Proofs.YtidmgckmphcegaaGreatDoor
