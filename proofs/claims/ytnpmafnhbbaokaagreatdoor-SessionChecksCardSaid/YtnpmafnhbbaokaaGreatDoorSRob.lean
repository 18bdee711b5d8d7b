/-
  robin: Next and Remove of the only key.
-/
import Derived.Test.YtnpmafnhbbaokaaGreatDoorSWrite
import Derived.Test.YtnpmafnhbbaokaaGreatDoorSLn
import Derived.ArgAppend
import Derived.Lib.SliceRun
namespace Go.Proofs.YtnpmafnhbbaokaaGreatDoor
open Go Go.RowKit
open Go.ChangeMaps (setBlock)
set_option linter.unusedVariables false
set_option linter.unusedSimpArgs false
/-- append(s[1:], x) of a slice of one cell. -/
theorem app_one {W : World} {ops : Array Oper} {rest : List Oper} {o : Oper} {a : Act} {Q : Exit → Act → World → Prop} (hgd : o.guard = none) (s x : Operand) (T E : TypeId) (z : Value) (by_ : Nat)
    (ho : o.op = .call { callee := .builtin .append, args := #[s, x], argTypes := #[T, T] })
    (hT : Tryz.prog.underlying T = some (.slice E)) (hi : (Tryz.prog.info? E).map (fun i => (i.zero, i.size, i.bytes)) = some (some z, 1, by_)) (hz : z.cells.size = 1) (hby : by_ ≤ 1000)
    (y : Value) (hy : y.oneCell' = true) (r o' c : Nat) (cur : Array Value) (hr : W.heap[r]? = some (.cells cur E (0, 0))) (hsz : o' + c ≤ cur.size) (hcm : c ≤ maxLen) (hs : a.eval s = .slice (some ⟨r, o', none⟩) 0 c) (hx : a.eval x = .slice (some ⟨W.heap.size, 0, none⟩) 1 1)
    (h : ∀ r' o'' c' w', One w' E r' o'' c' y → Ch [r] W w' → (r' = r ∨ W.heap.size < r') → wpList Tryz.prog ops Q rest (a.put o.dst (.slice (some ⟨r', o'', none⟩) 1 c')) w') :
    wpList Tryz.prog ops Q (o :: rest) a (W.alloc (.cells #[y] E)) := by
  obtain ⟨i0, hi, hz0, hz1, hz2⟩ := info_parts hi
  have hr' : (W.alloc (.cells #[y] E)).heap[r]? = some (.cells cur E (0, 0)) := alloc_old _ hr
  have hlt := blk_lt hr
  refine wpList_append_arg _ hgd s x T ho E i0 z 1 by_ hT hi hz0 hz1 hz2 hz (by decide) r o' 0 c [] hs rfl (fun j u hu => by simp at hu) ⟨W.heap.size, 0, none⟩ 1 1 [y] hx rfl (cell_one_new _ _ _) (by simpa using hy) (fun hr1 j hj => ?_) (by unfold maxLen; omega) (by omega) (fun hr1 => ?_) (fun hg v' w' ho' hgr => ?_)
  · have hj0 : j = 0 := by simpa using hj
    subst hj0
    have hlt' : o' + 0 * 1 + 0 < cur.size := by omega
    exact ⟨by simp [World.cell?, hr', hlt']; omega, free_blk hr'⟩
  · refine h r o' c _ ⟨cur.setIfInBounds (o' + 0 * 1) y, ?_, ?_, by omega, hcm, by simpa using hsz⟩ ?_ (.inl rfl)
    · exact set_blk _ hr'
    · rw [Nat.zero_mul, Nat.add_zero]
      exact Array.getElem?_setIfInBounds_self_of_lt (by omega)
    · exact ((Ch.refl [r] W).alloc _).set (.inl (by simp)) _
  · rcases ho'.2 with ⟨_, h0⟩ | ⟨g, cap, cur', rfl, hb, hh, hnc, hm, hs', ht⟩
    · omega
    · have hb' : W.heap.size + 1 ≤ g := by simpa using hb
      refine h g 0 cap w' ⟨cur', hh, ?_, hnc, hm, by omega⟩ ?_ (.inr (by omega))
      · have := congrArg (fun l => l[0]?) ht
        simpa using this
      · exact ((Ch.refl [r] W).alloc _).grown hgr (fun k hk => by cases hk)
theorem rblen_any {w : World} {gr m l c : Nat} {A : Option Addr} (hr : w.heap[gr]? = some (.cells #[.slice A l c, .map (some m)] 223 (0, 0))) :
    Calls Tryz.prog 94 #[pt gr] w fun e w' => e = .returned (.int .i64 l) ∧ w' = w := by
  have c0 : w.cell? ⟨gr, 0, none⟩ = some (.slice A l c) := cell_blk hr rfl
  clear hr
  go_enter Tryz.func94, Tryz.ntmps94
  unfold pt
  go_wp2_with fail
  go_ret
  exact ⟨rfl, rfl⟩
theorem rnext_0 {w : World} {gr m c : Nat} {A : Option Addr} (hr : w.heap[gr]? = some (.cells #[.slice A 0 c, .map (some m)] 223 (0, 0))) :
    Calls Tryz.prog 68 #[pt gr] w fun e w' => e = .returned (.tuple #[.int .u32 0, .bool false]) ∧ w' = w := by
  have HL := Lib.hid (rblen_any hr)
  clear hr
  go_enter Tryz.func68, Tryz.ntmps68
  unfold pt
  go_wp2_with fail
  refine HL.out.mono ?_
  rintro e w ⟨rfl, rfl⟩
  go_wp2_with fail
  go_ret2
  exact ⟨rfl, rfl⟩
set_option maxHeartbeats 1000000 in
theorem rnext_1 {w : World} {gr m r o cap : Nat} (hr : w.heap[gr]? = some (.cells #[.slice (some ⟨r, o, none⟩) 1 cap, .map (some m)] 223 (0, 0))) (ho : One w 35 r o cap (.int .u32 1)) :
    Calls Tryz.prog 68 #[pt gr] w fun e w' => e = .returned (.tuple #[.int .u32 1, .bool true]) ∧ Ch [gr, r] w w' ∧ ∃ r' o' cap', (r' = r ∨ w.heap.size < r') ∧ One w' 35 r' o' cap' (.int .u32 1) ∧ w'.heap[gr]? = some (.cells #[.slice (some ⟨r', o', none⟩) 1 cap', .map (some m)] 223 (0, 0)) := by
  have HL := Lib.hid (rblen_any hr)
  obtain ⟨cur, h1, h2, h3, h4, h5⟩ := ho
  have c0 : w.cell? ⟨gr, 0, none⟩ = some (.slice (some ⟨r, o, none⟩) 1 cap) := cell_blk hr rfl
  have x0 : w.cell? ⟨r, o, none⟩ = some (.int .u32 1) := cell_blk h1 h2
  have hlt : gr < w.heap.size := blk_lt hr
  have hne : gr ≠ r := type_ne hr h1 (by decide)
  have HR := Lib.hid hr
  have H1 := Lib.hid h1
  clear hr h1 h2
  unfold maxLen at h4
  have hcc : cap = 1 ∨ 1 < cap := by omega
  rcases hcc with rfl | hcc
  all_goals
    go_enter Tryz.func68, Tryz.ntmps68
    unfold pt
    go_wp2_with fail
    refine HL.out.mono ?_
    rintro e w ⟨rfl, rfl⟩
    go_wp2_with (at_builtin; go_loud ((first | (refine app_one rfl _ _ 116 35 (.int .u32 0) 4 rfl Tryz.underlying116 u32_info rfl (by decide) (.int .u32 1) rfl r o 0 cur H1.out (by omega) (by unfold maxLen; omega) rfl rfl ?_) | (refine app_one rfl _ _ 116 35 (.int .u32 0) 4 rfl Tryz.underlying116 u32_info rfl (by decide) (.int .u32 1) rfl r (o + 1) (cap - 1) cur H1.out (by omega) (by unfold maxLen; omega) rfl rfl ?_)); intro r' o' c' w1 ho1 hch1 hr1; have hg1 := hch1.at_ HR.out (by simp; omega); have c0' : w1.cell? ⟨gr, 0, none⟩ = some (.slice (some ⟨r, o, none⟩) 1 _) := cell_blk hg1 rfl; have hf' : ∀ j, w1.frozen? ⟨gr, j, none⟩ = false := fun j => free_blk hg1; have K1 := Lib.hid (And.intro ho1 (And.intro hch1 (And.intro hr1 hg1))); clear ho1 hch1 hr1 hg1 c0))
    go_ret2
    obtain ⟨ho1, hch1, hr1, hg1⟩ := K1.out
    have hr' : r' ≠ gr := by rcases hr1 with rfl | hr1 <;> omega
    have h2 : Ch [gr] w1 (w1.setCell ⟨gr, 0, none⟩ (.slice (some ⟨r', o', none⟩) 1 c')) := (Ch.refl _ _).set (.inl (by simp)) _
    refine ⟨rfl, ?_, r', o', c', hr1, ?_, set_is hg1 rfl⟩
    · exact ((Ch.refl [gr, r] w).trans hch1 (by simp)).trans h2 (by simp)
    · obtain ⟨cur', k1, k2⟩ := ho1
      exact ⟨cur', setO _ k1 hr', k2⟩
theorem index_1 {w : World} {r o cap : Nat} (hx : w.cell? ⟨r, o, none⟩ = some (.int .u32 1)) :
    Calls Tryz.prog 96 #[.slice (some ⟨r, o, none⟩) 1 cap, .int .u32 1] w fun e w' => e = .returned (.int .i64 0) ∧ w' = w := by
  go_enter Tryz.func96, Tryz.ntmps96
  go_wp2_with fail
  refine wp_loop_rounds 1 ?_
  rw [rounds_succ]
  go_wp2_with fail
  go_ret
  exact ⟨rfl, rfl⟩
theorem app_none (W : World) (r o cap : Nat) (ad : Addr) (c2 : Nat) : (Builtin.append_ #[116, 116] 116 #[.slice (some ⟨r, o, none⟩) 0 cap, .slice (some ad) 0 c2]).run Tryz.prog W = .ok (.slice (some ⟨r, o, none⟩) 0 cap) W := by
  obtain ⟨i0, hi, hz0, hz1, hz2⟩ := info_parts u32_info
  exact run_append_room_cells (P := Tryz.prog) W 116 116 35 i0 Tryz.underlying116 hi r o 0 cap ad 0 c2 [] (by simp) (fun j u hu => by simp at hu) (by simp) (by omega) (fun j hj => by simp at hj) (fun j hj => by simp at hj)
set_option maxHeartbeats 1000000 in
theorem delete_1 {w : World} {r o cap : Nat} (ho : One w 35 r o cap (.int .u32 1)) :
    Calls Tryz.prog 97 #[.slice (some ⟨r, o, none⟩) 1 cap, .int .i64 0, .int .i64 1] w fun e w' => e = .returned (.slice (some ⟨r, o, none⟩) 0 cap) ∧ Ch [r] w w' := by
  obtain ⟨cur, h1, h2, h3, h4, h5⟩ := ho
  have hf : ∀ j, w.frozen? ⟨r, j, none⟩ = false := fun j => free_blk h1
  have x0 : w.cell? ⟨r, o, none⟩ = some (.int .u32 1) := cell_blk h1 h2
  have happ := fun W ad c2 => app_none W r o cap ad c2
  have hcl : ∀ c, (Builtin.clear_ #[116] 0 #[.slice (some ⟨r, o, none⟩) 1 c]).run Tryz.prog w.drew = .ok (.tuple #[]) (w.drew.setCell ⟨r, o, none⟩ (.int .u32 0)) := fun c => Lib.run_clear_slice (P := Tryz.prog) w.drew 116 35 0 (.int .u32 0) Tryz.underlying116 (fun _ => by kernel_rfl) rfl rfl r o 1 c (by decide) (fun j hj => by rw [show j = 0 by omega]; exact (congrArg Option.isSome x0).trans rfl) (fun j hj => hf _)
  have H1 := Lib.hid h1
  clear h1 h2
  unfold maxLen at h4
  have hcc : cap = 1 ∨ 1 < cap := by omega
  rcases hcc with rfl | hcc
  all_goals
    go_enter Tryz.func97, Tryz.ntmps97
    go_wp2_with fail
    go_region
    go_wp2_with fail
    go_ret
    exact ⟨rfl, (Ch.refl _ _).drew.set (.inl (by simp)) _⟩
set_option maxHeartbeats 1000000 in
theorem remove_1 {w : World} {gr m r o cap cl bn : Nat} {x : Value} (hr : w.heap[gr]? = some (.cells #[.slice (some ⟨r, o, none⟩) 1 cap, .map (some m)] 223 (0, 0))) (ho : One w 35 r o cap (.int .u32 1)) (hm : w.heap[m]? = some (.map #[⟨.int .u32 1, x, bn⟩] cl)) :
    Calls Tryz.prog 69 #[pt gr, .int .u32 1] w fun e w' => e = .returned (.bool true) ∧ Ch [r, gr, m] w w' ∧ w'.heap[gr]? = some (.cells #[.slice (some ⟨r, o, none⟩) 0 cap, .map (some m)] 223 (0, 0)) ∧ w'.heap[m]? = some (.map #[] cl) := by
  have HH := Lib.hid (has_1 hr hm)
  have HD := Lib.hid (delete_1 ho)
  obtain ⟨cur, h1, h2, h3, h4, h5⟩ := ho
  have x0 : w.cell? ⟨r, o, none⟩ = some (.int .u32 1) := cell_blk h1 h2
  have HI := Lib.hid (index_1 (cap := cap) x0)
  have c0 : w.cell? ⟨gr, 0, none⟩ = some (.slice (some ⟨r, o, none⟩) 1 cap) := cell_blk hr rfl
  have n1 : gr ≠ r := type_ne hr h1 (by decide)
  have n2 : gr ≠ m := map_ne hr hm
  have n3 : r ≠ m := map_ne h1 hm
  have HR := Lib.hid hr
  have HM := Lib.hid hm
  clear hr hm h1 h2 x0
  go_enter Tryz.func69, Tryz.ntmps69
  unfold pt
  go_wp2_with fail
  refine HH.out.mono ?_
  rintro e w ⟨rfl, rfl⟩
  go_wp2_with fail
  refine HI.out.mono ?_
  rintro e w ⟨rfl, rfl⟩
  go_wp2_with fail
  refine HD.out.mono ?_
  rintro e w1 ⟨rfl, hc1⟩
  have hr1 := hc1.at_ HR.out (by simp; omega)
  have hm1 := hc1.at_ HM.out (by simp; omega)
  have hf : ∀ j, w1.frozen? ⟨gr, j, none⟩ = false := fun j => free_blk hr1
  have c0' : w1.cell? ⟨gr, 0, none⟩ = some (.slice (some ⟨r, o, none⟩) 1 cap) := cell_blk hr1 rfl
  have c1' : w1.cell? ⟨gr, 1, none⟩ = some (.map (some m)) := cell_blk hr1 rfl
  have hdl := drop_some (W := w1.setCell ⟨gr, 0, none⟩ (.slice (some ⟨r, o, none⟩) 0 cap)) (t := 156) (ty := 0) Tryz.underlying156 (setO _ hm1 (Ne.symm n2)) (key_one _ _ 1) (find_one _ _ _)
  rw [erase_one] at hdl
  have K1 := Lib.hid (And.intro hc1 (And.intro hr1 hm1))
  clear hc1 hr1 hm1 c0
  go_wp2_with fail
  go_ret
  obtain ⟨hc1, hr1, hm1⟩ := K1.out
  have h2 : Ch [gr] w1 (w1.setCell ⟨gr, 0, none⟩ (.slice (some ⟨r, o, none⟩) 0 cap)) := (Ch.refl _ _).set (.inl (by simp)) _
  have hm2 := setO (c := gr) (i := 0) (.slice (some ⟨r, o, none⟩) 0 cap) hm1 (Ne.symm n2)
  have h3 := Ch.block_ (L := [m]) (Ch.refl _ _) hm2 (.inl (by simp)) (.map #[] cl)
  refine ⟨rfl, ?_, ?_, ?_⟩
  · exact (((Ch.refl [r, gr, m] w).trans hc1 (by simp)).trans h2 (by simp)).trans h3 (by simp)
  · exact h3.at_ (set_is hr1 rfl) (by simp; omega)
  · exact ChangeMaps.heap_setBlock_same hm2 _
end Go.Proofs.YtnpmafnhbbaokaaGreatDoor
