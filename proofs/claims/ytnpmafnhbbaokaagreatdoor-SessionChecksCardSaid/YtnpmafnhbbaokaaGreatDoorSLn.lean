/-
  The first ticket goes: lane.drop, Next, Frame; ids.Mine, Sent; out.Len.
-/
import Derived.Test.YtnpmafnhbbaokaaGreatDoorSWrite
import Derived.LaidEql
namespace Go.Proofs.YtnpmafnhbbaokaaGreatDoor
open Go Go.RowKit
open Go.ChangeMaps (setBlock)
set_option linter.unusedVariables false
set_option linter.unusedSimpArgs false
theorem type_ne {w : World} {a b : Nat} {t u : TypeId} {c d : Array Value} {f g : Nat × Nat} (h1 : w.heap[a]? = some (.cells c t f)) (h2 : w.heap[b]? = some (.cells d u g)) (h : t ≠ u) : a ≠ b := by
  intro e
  rw [e, h2] at h1
  injection h1 with h1
  injection h1 with _ h1 _
  exact h h1.symm
theorem map_ne {w : World} {a b : Nat} {t : TypeId} {c : Array Value} {f : Nat × Nat} {es : Array MapEntry} {cl : Nat} (h1 : w.heap[a]? = some (.cells c t f)) (h2 : w.heap[b]? = some (.map es cl)) : a ≠ b := by
  intro e
  rw [e, h2] at h1
  cases h1
theorem erase_one (e : MapEntry) : (#[e]).eraseIdxIfInBounds 0 = #[] := by
  apply Array.eq_empty_of_size_eq_zero
  simp [Array.eraseIdxIfInBounds]
theorem ent_sz : (Tryz.prog.info? 209).map (·.size) = some 4 := by kernel_rfl
theorem eql_ent (W : World) (a : Addr) : (binOp .eql 199 (.pointer (some a)) (.pointer (some a))).run Tryz.prog W = .ok (.bool true) W := by
  have hp := Tryz.underlying199
  have h : ∀ d : Nat, (Op.equalIn (d + 1) 199 (.pointer (some a)) (.pointer (some a))).run Tryz.prog W = .ok true W := fun d => by
    cases hq : Tryz.prog.info? 209 with
    | none => have := ent_sz; simp [hq] at this
    | some i =>
      have hi : i.size = 4 := by have := ent_sz; simpa [hq] using this
      simp [Op.equalIn, run_underlying hp, sizeOf, typeInfo, hq, hi, run_sameAddr_same]
  simp only [binOp]
  simp [Op.equal, Op.maxDepth, h 9999]
theorem fweight_any {w : World} {q : Nat} {a b v : Value} {t : Int} (hq : w.heap[q]? = some (.cells #[a, b, v, .int .i64 t] 168 (0, 0))) :
    Calls Tryz.prog 65 #[pt q] w fun e w' => e = .returned (.int .i64 t) ∧ w' = w := by
  have c3 : w.cell? ⟨q, 3, none⟩ = some (.int .i64 t) := cell_blk hq rfl
  clear hq
  go_enter Tryz.func65, Tryz.ntmps65
  unfold pt
  go_wp2_with fail
  go_ret
  exact ⟨rfl, rfl⟩
theorem olen_any {w : World} {q o : Nat} {a b v : Value} {t g : Int} (hq : w.heap[q]? = some (.cells #[a, b, v, .int .i64 t] 168 (0, 0))) (ho : w.heap[o]? = some (.cells #[pt q, .int .i64 g] 103 (0, 0))) (h0 : 0 ≤ g) (h1 : g ≤ t) (h2 : t ≤ 9223372036854775807) :
    Calls Tryz.prog 35 #[pt o] w fun e w' => e = .returned (.int .i64 (t - g)) ∧ ∃ k, w' = w.drewN k := by
  have c0 : w.cell? ⟨o, 0, none⟩ = some (pt q) := cell_blk ho rfl
  have c1 : w.cell? ⟨o, 1, none⟩ = some (.int .i64 g) := cell_blk ho rfl
  have hw : IntKind.i64.wrap (t - g) = t - g := by rw [IntKind.wrap_i64]; omega
  have HW : ∀ n, Calls Tryz.prog 65 #[.pointer (some ⟨q, 0, none⟩)] (w.drewN n) fun e w' => e = .returned (.int .i64 t) ∧ w' = w.drewN n := fun n => fweight_any (w := w.drewN n) hq
  clear hq ho
  unfold pt at c0
  go_enter Tryz.func35, Tryz.ntmps35
  unfold pt
  go_wp2_with fail
  go_quiet ((go_at_call 65; exact Calls.quiet_of_same (HW _)))
  go_wp2_with fail
  go_ret
  exact ⟨rfl, _, rfl⟩
set_option maxRecDepth 100000 in
set_option maxHeartbeats 2000000 in
theorem drop_1 {w : World} {gl ge m cl c : Nat} {A : Option Addr} (hl : w.heap[gl]? = some (.cells (laneC (.slice A 0 c) m 1) 204 (0, 0))) (he : w.heap[ge]? = some (.cells (syn1 false) 209 (0, 0))) (hm : w.heap[m]? = some (.map #[⟨kp, pt ge, 0⟩] cl)) :
    Calls Tryz.prog 93 #[pt gl, pt ge] w fun e w' => e = .returned (.tuple #[]) ∧ Ch [ge, gl, m] w w' ∧ w'.heap[gl]? = some (.cells (laneC (.slice A 0 c) m 0) 204 (0, 0)) ∧ w'.heap[ge]? = some (.cells (syn1 true) 209 (0, 0)) ∧ w'.heap[m]? = some (.map #[] cl) := by
  have ne1 : gl ≠ ge := type_ne hl he (by decide)
  have ne2 : gl ≠ m := map_ne hl hm
  have ne3 : ge ≠ m := map_ne he hm
  have e0 : w.cell? ⟨ge, 0, none⟩ = some (.int .i64 1) := cell_blk he rfl
  have e1 : w.cell? ⟨ge, 1, none⟩ = some (.int .u32 1) := cell_blk he rfl
  have e3 : w.cell? ⟨ge, 3, none⟩ = some (.bool false) := cell_blk he rfl
  have ef : ∀ j, w.frozen? ⟨ge, j, none⟩ = false := fun j => free_blk he
  have c0 : w.cell? ⟨gl, 0, none⟩ = some (.slice A 0 c) := cell_blk hl rfl
  have c1 : w.cell? ⟨gl, 1, none⟩ = some (.map (some m)) := cell_blk hl rfl
  have c3 : w.cell? ⟨gl, 3, none⟩ = some (.int .i64 1) := cell_blk hl rfl
  have c10 : w.cell? ⟨gl, 10, none⟩ = some (.int .i64 1) := cell_blk hl rfl
  have cf : ∀ j, w.frozen? ⟨gl, j, none⟩ = false := fun j => free_blk hl
  have ne1' : ge ≠ gl := Ne.symm ne1
  have HL := Lib.hid hl
  have HE := Lib.hid he
  have HM := Lib.hid hm
  clear hl he hm
  go_enter Tryz.func93, Tryz.ntmps93
  unfold pt
  go_wp2_with fail
  go_region
  go_wp2_with fail
  obtain ⟨w2, hw2⟩ : ∃ w2, w2 = (((w.setCell ⟨ge, 3, none⟩ (.bool true)).setCell ⟨gl, 3, none⟩ (.int .i64 0)).setCell ⟨gl, 10, none⟩ (.int .i64 0)).drew := ⟨_, rfl⟩
  rw [← hw2]
  have hc2 : Ch [ge, gl] w w2 := by rw [hw2]; exact ((((Ch.refl _ _).set (.inl (by simp)) _).set (.inl (by simp)) _).set (.inl (by simp)) _).drew
  have e2 : w2.heap[ge]? = some (.cells (syn1 true) 209 (0, 0)) := by rw [hw2]; exact drew_blk (setO _ (setO _ (set_is HE.out rfl) ne1') ne1')
  have l2 : w2.heap[gl]? = some (.cells (laneC (.slice A 0 c) m 0) 204 (0, 0)) := by rw [hw2]; exact drew_blk (set_is (set_blk _ (setO _ HL.out ne1)) rfl)
  have m2 := hc2.at_ HM.out (by simp; omega)
  clear e0 e1 e3 ef c0 c1 c3 c10 cf hw2
  have e0 : w2.cell? ⟨ge, 0, none⟩ = some (.int .i64 1) := cell_blk e2 rfl
  have e1 : w2.cell? ⟨ge, 1, none⟩ = some (.int .u32 1) := cell_blk e2 rfl
  have hlt : ge < w2.heap.size := blk_lt e2
  have K2 := Lib.hid (And.intro hc2 (And.intro e2 (And.intro l2 m2)))
  clear hc2 e2 l2 m2
  go_region
  obtain ⟨w3, hw3⟩ : ∃ w3, w3 = (w2.alloc (.cells #[.int .i64 1, .int .u32 1] 198)).drew := ⟨_, rfl⟩
  rw [← hw3]
  obtain ⟨hc2, e2, l2, m2⟩ := K2.out
  have hz2 : w2.heap.size < w3.heap.size := by rw [hw3]; simp
  have hc3 : Ch [] w2 w3 := by rw [hw3]; exact ((Ch.refl _ _).alloc _).drew
  have p3 : w3.heap[w2.heap.size]? = some (.cells #[.int .i64 1, .int .u32 1] 198 (0, 0)) := by rw [hw3]; exact drew_blk (alloc_is _ rfl)
  have l3 := hc3.at_ l2 (by simp)
  have m3 := hc3.at_ m2 (by simp)
  clear e0 e1 hc2 e2 l2 m2 hw3
  have p0 : w3.cell? ⟨w2.heap.size, 0, none⟩ = some (.int .i64 1) := cell_blk p3 rfl
  have p1 : w3.cell? ⟨w2.heap.size, 1, none⟩ = some (.int .u32 1) := cell_blk p3 rfl
  have c1 : w3.cell? ⟨gl, 1, none⟩ = some (.map (some m)) := cell_blk l3 rfl
  have hk := look_some (W := w3.drew) (t := 201) false Tryz.underlying201 m3 (key_place _ _ 1 1) (find_place _ _ _)
  have K3 := Lib.hid (And.intro hc3 (And.intro p3 (And.intro l3 m3)))
  clear hc3 p3 l3 m3
  unfold pt at hk
  have hq : ∀ W, _ := fun W => eql_ent W ⟨ge, 0, none⟩
  go_wp2_with fail
  go_region
  obtain ⟨w4, hw4⟩ : ∃ w4, w4 = w3.drew := ⟨_, rfl⟩
  rw [← hw4]
  obtain ⟨hc3, p3, l3, m3⟩ := K3.out
  have hc4 : Ch [] w3 w4 := by rw [hw4]; exact (Ch.refl _ _).drew
  have p4 := hc4.at_ p3 (by simp)
  have l4 := hc4.at_ l3 (by simp)
  have m4 := hc4.at_ m3 (by simp)
  clear p0 p1 c1 hk hq hc3 p3 l3 m3 hw4
  have p0 : w4.cell? ⟨w2.heap.size, 0, none⟩ = some (.int .i64 1) := cell_blk p4 rfl
  have p1 : w4.cell? ⟨w2.heap.size, 1, none⟩ = some (.int .u32 1) := cell_blk p4 rfl
  have c1 : w4.cell? ⟨gl, 1, none⟩ = some (.map (some m)) := cell_blk l4 rfl
  have hk : ∀ ty, (Builtin.delete_ #[201, 198] ty #[.map (some m), .agg #[.int .i64 1, .int .u32 1]]).run Tryz.prog w4.drew = .ok (.tuple #[]) (setBlock w4.drew m (.map #[] cl)) := fun ty => by
    have h := drop_some (W := w4.drew) (ty := ty) Tryz.underlying201 m4 (key_place _ _ 1 1) (find_place _ _ _)
    rwa [erase_one] at h
  have K4 := Lib.hid (And.intro hc4 (And.intro l4 m4))
  clear hc4 p4 l4 m4
  go_wp2_with fail
  go_region
  obtain ⟨w5, hw5⟩ : ∃ w5, w5 = setBlock w4.drew m (.map #[] cl) := ⟨_, rfl⟩
  rw [← hw5]
  obtain ⟨hc4, l4, m4⟩ := K4.out
  have hc5 : Ch [m] w4 w5 := by rw [hw5]; exact Ch.block_ (Ch.refl _ _).drew m4 (.inl (by simp)) _
  have m5 : w5.heap[m]? = some (.map #[] cl) := by rw [hw5]; exact ChangeMaps.heap_setBlock_same (w := w4.drew) m4 _
  have l5 := hc5.at_ l4 (by simp; omega)
  clear p0 p1 c1 hk hc4 l4 m4 hw5
  have c0 : w5.cell? ⟨gl, 0, none⟩ = some (.slice A 0 c) := cell_blk l5 rfl
  have c10 : w5.cell? ⟨gl, 10, none⟩ = some (.int .i64 0) := cell_blk l5 rfl
  have K5 := Lib.hid (And.intro hc5 (And.intro m5 l5))
  clear hc5 m5 l5
  have z1 : IntKind.i64.wrap 0 = 0 := by rw [IntKind.wrap_i64]; omega
  have z2 : IntKind.i64.wrap (0 + 16) = 16 := by rw [IntKind.wrap_i64]; omega
  have z3 : IntKind.i64.wrap (2 * 0) = 0 := by rw [IntKind.wrap_i64]; omega
  go_wp2_with fail
  go_region
  go_wp2_with fail
  go_end0
  obtain ⟨hc2, e2, l2, m2⟩ := K2.out
  obtain ⟨hc3, p3, l3, m3⟩ := K3.out
  obtain ⟨hc4, l4, m4⟩ := K4.out
  obtain ⟨hc5, m5, l5⟩ := K5.out
  have s2 := hc2.size
  have hem : ge ≠ m := ne3
  refine ⟨rfl, ?_, l5, ?_, m5⟩
  · exact ((((((Ch.refl [ge, gl, m] w).trans hc2 (by simp)).trans hc3 (by simp)).trans hc4 (by simp)).trans hc5 (by simp))).drew
  · exact drew_blk (hc5.at_ (hc4.at_ (hc3.at_ e2 (by simp)) (by simp)) (by simp; omega))
end Go.Proofs.YtnpmafnhbbaokaaGreatDoor
