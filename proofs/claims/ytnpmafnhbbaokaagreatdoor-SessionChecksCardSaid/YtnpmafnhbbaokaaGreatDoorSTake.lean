/-
  out.Take of all that waits: three frames.
-/
import Derived.Test.YtnpmafnhbbaokaaGreatDoorSQ
namespace Go.Proofs.YtnpmafnhbbaokaaGreatDoor
open Go Go.RowKit
open Go.ChangeMaps (setBlock)
set_option linter.unusedVariables false
set_option linter.unusedSimpArgs false
/-- A frame's bytes are kept where its block is not touched. -/
theorem Own.ch {w w1 : World} {B : Nat} {v : Value} {xs : List Int} {L : List Nat} (h : Own w B v xs) (hc : Ch L w w1) (hn : ∀ k ∈ L, ∀ cu, w.heap[k]? ≠ some (.cells cu 5 (0, 0))) : Own w1 B v xs :=
  owns_step h fun k hk => by
    obtain ⟨cur, hh, _⟩ := owns_type h k hk
    exact hc.block k (blk_lt hh) fun hm => hn k hm cur hh
theorem Own.bs' {w : World} {B m c : Nat} {A : Option Addr} {xs : List Int} (h : Own w B (.slice A m c) xs) (hx : ∀ x ∈ xs, 0 ≤ x ∧ x ≤ 255) : Bs w A xs.length c xs := by
  obtain ⟨A', c', e, h'⟩ := Own.bs h hx
  injection e with e1 e2 e3
  subst e1; subst e3
  exact h'
theorem Tq.ch {w w1 : World} {n rb o cap : Nat} {qs : List (Value × List Int)} {L : List Nat} (h : Tq w n rb o cap qs) (hc : Ch L w w1) (h1 : n ∉ L) (h2 : rb ∉ L) : Tq w1 n rb o cap qs := by
  obtain ⟨cur, k1, k2⟩ := h.row
  exact ⟨hc.at_ h.box h1, ⟨cur, hc.at_ k1 h2, k2⟩, h.len, h.max⟩
theorem no8 {w : World} {b k : Nat} {c : Array Value} {t : TypeId} {f : Nat × Nat} (h : w.heap[b]? = some (.cells c t f)) (ht : t ≠ 5) (hk : k = b) : ∀ cu, w.heap[k]? ≠ some (.cells cu 5 (0, 0)) := fun cu e => by
  subst hk
  rw [h] at e
  injection e with e; injection e with _ e _
  exact ht e
/-- Between two rounds of Take. -/
structure TkS (w W : World) (n B rb o cap : Nat) (g : Int) (qs : List (Value × List Int)) (u : Value) (acc : List Int) : Prop where
  box : ∃ A c, W.heap[n]? = some (.cells (fqC (.slice A qs.length c) (tot qs)) 168 (0, 0))
  tq : 0 < qs.length → Tq W n rb o cap qs
  row : ∃ cu, W.heap[rb]? = some (.cells cu 234 (0, 0))
  out : W.heap[n + 1]? = some (.cells #[pt n, .int .i64 g] 103 (0, 0))
  own : Own W w.heap.size u acc
  ch : Ch [n + 1, n, rb] w W
  thg : ∀ q ∈ qs, Own W B q.1 q.2 ∧ ∀ x ∈ q.2, 0 ≤ x ∧ x ≤ 255
theorem TkS.no {w W : World} {n B rb o cap : Nat} {g : Int} {qs : List (Value × List Int)} {u : Value} {acc : List Int} (h : TkS w W n B rb o cap g qs u acc) : ∀ k ∈ [n + 1, n, rb], ∀ cu, W.heap[k]? ≠ some (.cells cu 5 (0, 0)) := fun k hk => by
  obtain ⟨A, c, hb⟩ := h.box
  obtain ⟨cu, hr⟩ := h.row
  simp only [List.mem_cons, List.not_mem_nil, or_false] at hk
  rcases hk with hk | hk | hk
  · exact no8 h.out (by decide) hk
  · exact no8 hb (by decide) hk
  · exact no8 hr (by decide) hk
theorem TkS.next {w W W1 : World} {n B rb o cap : Nat} {g : Int} {qs : List (Value × List Int)} {u : Value} {acc : List Int} (h : TkS w W n B rb o cap g qs u acc) (hc : Ch [] W W1) : TkS w W1 n B rb o cap g qs u acc := by
  obtain ⟨A, c, hb⟩ := h.box
  obtain ⟨cu, hr⟩ := h.row
  exact ⟨⟨A, c, hc.at_ hb (by simp)⟩, fun h0 => (h.tq h0).ch hc (by simp) (by simp), ⟨cu, hc.at_ hr (by simp)⟩, hc.at_ h.out (by simp), h.own.ch hc (fun k hk => by cases hk), h.ch.trans hc (fun j hj => by cases hj), fun q hq => ⟨(h.thg q hq).1.ch hc (fun k hk => by cases hk), (h.thg q hq).2⟩⟩
theorem TkS.app {w W W1 : World} {n B rb o cap : Nat} {g : Int} {qs : List (Value × List Int)} {u u1 : Value} {acc acc1 : List Int} (h : TkS w W n B rb o cap g qs u acc) (hg : W.grownBy W1 u.ownBlock) (ho : Own W1 w.heap.size u1 acc1) (hn : n + 1 < w.heap.size) (hr0 : rb < w.heap.size)
    (hB : ∀ q ∈ qs, ∀ k, q.1.ownBlock = some k → k < w.heap.size) : TkS w W1 n B rb o cap g qs u1 acc1 := by
  obtain ⟨A, c, hb⟩ := h.box
  obtain ⟨cu, hr⟩ := h.row
  have hc : Ch u.ownBlock.toList W W1 := (Ch.refl u.ownBlock.toList W).grown hg (fun k hk => .inl (Option.mem_toList.2 hk))
  have hnb : ∀ k, k < w.heap.size → k ∉ u.ownBlock.toList := fun k hk hm => by
    obtain ⟨cu, _, hb⟩ := owns_type h.own k (Option.mem_toList.1 hm)
    omega
  refine ⟨⟨A, c, hc.at_ hb (hnb _ (by omega))⟩, fun h0 => (h.tq h0).ch hc (hnb _ (by omega)) (hnb _ hr0), ⟨cu, hc.at_ hr (hnb _ hr0)⟩, hc.at_ h.out (hnb _ hn), ho, h.ch.trans hc (fun j hj => .inr ?_), fun q hq => ⟨owns_step (h.thg q hq).1 fun k hk => ?_, (h.thg q hq).2⟩⟩
  · obtain ⟨cu, _, hb⟩ := owns_type h.own j (Option.mem_toList.1 hj)
    exact hb
  · obtain ⟨cur, hh, _⟩ := owns_type (h.thg q hq).1 k hk
    exact hc.block k (blk_lt hh) (hnb k (hB q hq k hk))
theorem TkS.gone {w W : World} {n B rb o cap : Nat} {g : Int} {qs : List (Value × List Int)} {u : Value} {acc : List Int} (h : TkS w W n B rb o cap g qs u acc) (g' : Int) (hr : rb ≠ n + 1) : TkS w (W.setCell ⟨n + 1, 1, none⟩ (.int .i64 g')) n B rb o cap g' qs u acc := by
  obtain ⟨A, c, hb⟩ := h.box
  obtain ⟨cu, hrr⟩ := h.row
  have hc : Ch [n + 1] W (W.setCell ⟨n + 1, 1, none⟩ (.int .i64 g')) := (Ch.refl _ _).set (.inl (by simp)) _
  have h8 : ∀ k ∈ [n + 1], ∀ cu, W.heap[k]? ≠ some (.cells cu 5 (0, 0)) := fun k hk => no8 h.out (by decide) (by simpa using hk)
  exact ⟨⟨A, c, hc.at_ hb (by simp)⟩, fun h0 => (h.tq h0).ch hc (by simp) (by simpa using hr), ⟨cu, hc.at_ hrr (by simpa using hr)⟩, set_is h.out rfl, h.own.ch hc h8, h.ch.trans hc (fun j hj => .inl (by simp at hj ⊢; omega)), fun q hq => ⟨(h.thg q hq).1.ch hc h8, (h.thg q hq).2⟩⟩
theorem TkS.get {w W W1 : World} {n B rb o cap : Nat} {g : Int} {q : Value × List Int} {qs : List (Value × List Int)} {u : Value} {acc : List Int} (h : TkS w W n B rb o cap g (q :: qs) u acc) (hr : rb ≠ n + 1) (hc : Ch [rb, n] W W1) (hb : ∃ A' c', W1.heap[n]? = some (.cells (fqC (.slice A' qs.length c') (tot qs)) 168 (0, 0)) ∧ (0 < qs.length → Tq W1 n rb (o + 2) (cap - 1) qs) ∧ ∃ cu, W1.heap[rb]? = some (.cells cu 234 (0, 0))) : TkS w W1 n B rb (o + 2) (cap - 1) g qs u acc := by
  obtain ⟨A, c, hb, hq, hrow⟩ := hb
  have h8 : ∀ k ∈ [rb, n], ∀ cu, W.heap[k]? ≠ some (.cells cu 5 (0, 0)) := fun k hk => h.no k (by simp at hk ⊢; omega)
  exact ⟨⟨A, c, hb⟩, hq, hrow, hc.at_ h.out (by simp; omega), h.own.ch hc h8, h.ch.trans hc (fun j hj => .inl (by simp at hj ⊢; omega)), fun p hp => ⟨(h.thg p (List.mem_cons_of_mem _ hp)).1.ch hc h8, (h.thg p (List.mem_cons_of_mem _ hp)).2⟩⟩
set_option maxRecDepth 100000 in
set_option maxHeartbeats 4000000 in
theorem otake_3 {w : World} {n B : Nat} {y1 y2 y3 : Value} {x1 x2 x3 : List Int} {v : Value} (hq : Fq w n B [(y1, x1), (y2, x2), (y3, x3)] v) (ho : w.heap[n + 1]? = some (.cells #[pt n, .int .i64 0] 103 (0, 0))) (hn : n + 1 < B) (hBw : B ≤ w.heap.size) (l1 : x1.length = 12) (l2 : x2.length = 15) (l3 : x3.length = 13) :
    Calls Tryz.prog 41 #[pt (n + 1), .int .i64 100] w fun e w' => ∃ u, e = .returned u ∧ Own w' w.heap.size u (x1 ++ x2 ++ x3) ∧ Below n w w' ∧ ∀ B' v' xs', Own w B' v' xs' → Own w' B' v' xs' := by
  obtain ⟨rb, cap, hrb, hT⟩ := Tq.of hq (by simp)
  have g1 := hq.thg (y1, x1) (by simp)
  have g2 := hq.thg (y2, x2) (by simp)
  have g3 := hq.thg (y3, x3) (by simp)
  have z1 : n + 1 < w.heap.size := blk_lt ho
  obtain ⟨A1, k1, e1, b1⟩ := Own.bs g1.1 g1.2
  obtain ⟨A2, k2, e2, b2⟩ := Own.bs g2.1 g2.2
  obtain ⟨A3, k3, e3, b3⟩ := Own.bs g3.1 g3.2
  obtain ⟨p1, o1, rfl, r1⟩ := b1.rd (show 0 < x1.length by omega)
  obtain ⟨p2, o2, rfl, r2⟩ := b2.rd (show 0 < x2.length by omega)
  obtain ⟨p3, o3, rfl, r3⟩ := b3.rd (show 0 < x3.length by omega)
  have f1 : p1 < w.heap.size := World.block_lt_of_cell? w _ (r1 0 (show 0 < x1.length by omega))
  have f2 : p2 < w.heap.size := World.block_lt_of_cell? w _ (r2 0 (show 0 < x2.length by omega))
  have f3 : p3 < w.heap.size := World.block_lt_of_cell? w _ (r3 0 (show 0 < x3.length by omega))
  simp only at e1 e2 e3
  rw [l1] at e1 b1; rw [l2] at e2 b2; rw [l3] at e3 b3
  subst e1; subst e2; subst e3
  have hk1 := b1.cap
  have hk2 := b2.cap
  have hk3 := b3.cap
  have hi1 : (12 : Int) ≤ k1 := by omega
  have hi2 : (15 : Int) ≤ k2 := by omega
  have hi3 : (13 : Int) ≤ k3 := by omega
  have hm1 := b1.max
  have hm2 := b2.max
  have hm3 := b3.max
  obtain ⟨cu, hcu, _⟩ := hT.row
  have zr : rb < w.heap.size := blk_lt hcu
  have hrn : rb ≠ n + 1 := type_ne hcu ho (by decide)
  have hF : ∀ qs : List (Value × List Int), (∀ q ∈ qs, q = (.slice (some ⟨p1, o1, none⟩) 12 k1, x1) ∨ q = (.slice (some ⟨p2, o2, none⟩) 15 k2, x2) ∨ q = (.slice (some ⟨p3, o3, none⟩) 13 k3, x3)) → ∀ q ∈ qs, ∀ k, q.1.ownBlock = some k → k < w.heap.size := fun qs h q hq k hk => by
    rcases h q hq with rfl | rfl | rfl <;> (simp [Value.ownBlock] at hk; subst hk; assumption)
  have HF := Lib.hid hF
  have LS := Lib.hid (And.intro l1 (And.intro l2 l3))
  obtain ⟨w0, hw0⟩ : ∃ w0, w0 = w := ⟨_, rfl⟩
  have S0 := Lib.hid (show TkS w w0 n B rb 0 cap 0 [(.slice (some ⟨p1, o1, none⟩) 12 k1, x1), (.slice (some ⟨p2, o2, none⟩) 15 k2, x2), (.slice (some ⟨p3, o3, none⟩) 13 k3, x3)] (.slice none 0 0) [] from by
    rw [hw0]
    exact ⟨⟨_, _, hT.box⟩, fun _ => hT, ⟨cu, hcu⟩, ho, ⟨rfl, .inl ⟨rfl, rfl⟩⟩, Ch.refl _ _, fun q hq' => by
      simp only [List.mem_cons, List.not_mem_nil, or_false] at hq'
      rcases hq' with rfl | rfl | rfl <;> assumption⟩)
  have hz0 : w.heap.size ≤ w0.heap.size := by rw [hw0]; exact Nat.le_refl _
  have z0 : IntKind.i64.wrap 0 = 0 := by rw [IntKind.wrap_i64]; omega
  clear hq ho hT g1 g2 g3 b1 b2 b3 r1 r2 r3 hcu hF l1 l2 l3
  go_enter Tryz.func41, Tryz.ntmps41
  unfold pt
  rw [← hw0]
  have HW0 := Lib.hid hw0
  clear hw0
  go_wp2_with fail
  refine wp_loop_rounds 4 ?_
  rw [rounds_succ]
  have s := S0.out
  obtain ⟨l1, l2, l3⟩ := LS.out
  have c0 : w0.cell? ⟨n + 1, 0, none⟩ = some (.pointer (some ⟨n, 0, none⟩)) := cell_blk s.out rfl
  have c1 : w0.cell? ⟨n + 1, 1, none⟩ = some (.int .i64 0) := cell_blk s.out rfl
  have ht : tot ((.slice (some ⟨p1, o1, none⟩) 12 k1, x1) :: [(.slice (some ⟨p2, o2, none⟩) 15 k2, x2), (.slice (some ⟨p3, o3, none⟩) 13 k3, x3)]) = 40 := by simp [tot, l1, l2, l3]
  obtain ⟨Ab, cb, hbx⟩ := s.box
  have HL := Lib.hid ((olen_any hbx s.out (by decide) (by rw [ht]; decide) (by rw [ht]; decide)).mono (fun e w' h => (⟨h.1.trans (by rw [ht]; rfl), h.2⟩ : e = .returned (.int .i64 40) ∧ ∃ k, w' = w0.drewN k)))
  have hTq := s.tq (by simp)
  have HH := Lib.hid (fun m => (qhead_any (w := w0.drewN m) (hTq.ch ((Ch.refl [] _).drewN m) (by simp) (by simp)) (by simp)).mono (fun e w' h => (⟨h.1.trans (by rw [l1]; rfl), h.2⟩ : e = .returned (.tuple #[.slice (some ⟨p1, o1, none⟩) 12 k1, .int .i64 12, .bool true]) ∧ ∃ k, w' = (w0.drewN m).drewN k)))
  have y0 : IntKind.i64.wrap (12 - 0) = 12 := by rw [IntKind.wrap_i64]; omega
  have y1 : IntKind.i64.wrap 12 = 12 := by rw [IntKind.wrap_i64]; omega
  have y2 : IntKind.i64.wrap (0 + 12) = 12 := by rw [IntKind.wrap_i64]; omega
  have y3 : IntKind.i64.wrap (100 - 12) = 88 := by rw [IntKind.wrap_i64]; omega
  have hmn : ∀ W, (Builtin.min_ #[3, 3] 3 #[.int .i64 100, .int .i64 12]).run Tryz.prog W = .ok (.int .i64 12) W := fun _ => by kernel_rfl
  have XL := Lib.hid l1
  clear s ht hbx hTq l1 l2 l3
  unfold pt at HL HH
  go_wp2_with fail
  refine HL.out.mono ?_
  rintro e _ ⟨rfl, m1, rfl⟩
  go_wp2_with fail
  refine (HH.out m1).mono ?_
  rintro e d0 ⟨rfl, m2, hd⟩
  have SE0 := Lib.hid (S0.out.next (show Ch [] w0 d0 by rw [hd]; exact ((Ch.refl [] w0).drewN m1).drewN m2))
  have c1 : d0.cell? ⟨n + 1, 1, none⟩ = some (.int .i64 0) := cell_blk SE0.out.out rfl
  have hzd : w.heap.size ≤ d0.heap.size := by rw [hd]; exact hz0
  clear hd
  go_upto_region 5 with fail
  have SD0 := Lib.hid (SE0.out.next (Ch.refl [] d0).drew)
  refine wp_region_still_tail 13 (by kernel_rfl) (by kernel_rfl) ?_
  simp only [List.take_succ_cons, List.take_zero, List.drop_succ_cons, List.drop_zero]
  repeat still_step
  refine wpStill_nil ?_
  change wpList _ _ _ _ _ d0.drew
  refine wpList_append_bs rfl _ _ rfl w.heap.size (.slice none 0 0) [] rfl SD0.out.own (some ⟨p1, o1, none⟩) 12 k1 x1 rfl (by have h := Own.bs' (SD0.out.thg _ (List.mem_cons_self ..)).1 (SD0.out.thg _ (List.mem_cons_self ..)).2; rw [XL.out] at h; exact h) (by have h := LS.out; simp <;> omega) hzd ?_
  intro u1 v1 ho8 hg8 _
  have hm8 := SD0.out.app hg8 ho8 z1 zr (HF.out _ (by simp))
  have T1 := Lib.hid (hm8.gone 12 hrn)
  have a0 : v1.cell? ⟨n + 1, 0, none⟩ = some (.pointer (some ⟨n, 0, none⟩)) := cell_blk hm8.out rfl
  have a1 : v1.cell? ⟨n + 1, 1, none⟩ = some (.int .i64 0) := cell_blk hm8.out rfl
  have af : ∀ j, v1.frozen? ⟨n + 1, j, none⟩ = false := fun j => free_blk hm8.out
  have HGt := Lib.hid (qget_any (T1.out.tq (by simp)) (by simp) (by have h := LS.out; simp [tot]; omega))
  have zv : n + 1 < v1.heap.size := blk_lt hm8.out
  clear hm8 ho8 hg8 c0 c1
  try unfold pt at HGt
  go_wp2_with fail
  refine HGt.out.mono ?_
  rintro e v1' ⟨rfl, hc9, hb9⟩
  have h9 := T1.out.get hrn hc9 hb9
  have e0 : v1'.cell? ⟨n + 1, 0, none⟩ = some (.pointer (some ⟨n, 0, none⟩)) := cell_blk h9.out rfl
  have e1 : v1'.cell? ⟨n + 1, 1, none⟩ = some (.int .i64 12) := cell_blk h9.out rfl
  have ef : ∀ j, v1'.frozen? ⟨n + 1, j, none⟩ = false := fun j => free_blk h9.out
  have S9 := Lib.hid h9
  clear h9 hc9 hb9
  go_wp2_with fail
  obtain ⟨w1, hw⟩ : ∃ w1, w1 = v1'.setCell ⟨n + 1, 1, none⟩ (.int .i64 0) := ⟨_, rfl⟩
  rw [← hw]
  have h1 := S9.out.gone 0 hrn
  rw [← hw] at h1
  have S1 := Lib.hid h1
  have hz1 : w.heap.size ≤ w1.heap.size := h1.ch.size
  clear h1 hw S9 a0 a1 af e0 e1 ef HL HH y0 y1 y2 y3 hmn XL HGt zv hzd SE0 SD0 T1 hz0
  rw [rounds_succ]
  have s := S1.out
  obtain ⟨l1, l2, l3⟩ := LS.out
  have c0 : w1.cell? ⟨n + 1, 0, none⟩ = some (.pointer (some ⟨n, 0, none⟩)) := cell_blk s.out rfl
  have c1 : w1.cell? ⟨n + 1, 1, none⟩ = some (.int .i64 0) := cell_blk s.out rfl
  have ht : tot ((.slice (some ⟨p2, o2, none⟩) 15 k2, x2) :: [(.slice (some ⟨p3, o3, none⟩) 13 k3, x3)]) = 28 := by simp [tot, l1, l2, l3]
  obtain ⟨Ab, cb, hbx⟩ := s.box
  have HL := Lib.hid ((olen_any hbx s.out (by decide) (by rw [ht]; decide) (by rw [ht]; decide)).mono (fun e w' h => (⟨h.1.trans (by rw [ht]; rfl), h.2⟩ : e = .returned (.int .i64 28) ∧ ∃ k, w' = w1.drewN k)))
  have hTq := s.tq (by simp)
  have HH := Lib.hid (fun m => (qhead_any (w := w1.drewN m) (hTq.ch ((Ch.refl [] _).drewN m) (by simp) (by simp)) (by simp)).mono (fun e w' h => (⟨h.1.trans (by rw [l2]; rfl), h.2⟩ : e = .returned (.tuple #[.slice (some ⟨p2, o2, none⟩) 15 k2, .int .i64 15, .bool true]) ∧ ∃ k, w' = (w1.drewN m).drewN k)))
  have y0 : IntKind.i64.wrap (15 - 0) = 15 := by rw [IntKind.wrap_i64]; omega
  have y1 : IntKind.i64.wrap 15 = 15 := by rw [IntKind.wrap_i64]; omega
  have y2 : IntKind.i64.wrap (0 + 15) = 15 := by rw [IntKind.wrap_i64]; omega
  have y3 : IntKind.i64.wrap (88 - 15) = 73 := by rw [IntKind.wrap_i64]; omega
  have hmn : ∀ W, (Builtin.min_ #[3, 3] 3 #[.int .i64 88, .int .i64 15]).run Tryz.prog W = .ok (.int .i64 15) W := fun _ => by kernel_rfl
  have XL := Lib.hid l2
  clear s ht hbx hTq l1 l2 l3
  unfold pt at HL HH
  go_wp2_with fail
  refine HL.out.mono ?_
  rintro e _ ⟨rfl, m1, rfl⟩
  go_wp2_with fail
  refine (HH.out m1).mono ?_
  rintro e d1 ⟨rfl, m2, hd⟩
  have SE1 := Lib.hid (S1.out.next (show Ch [] w1 d1 by rw [hd]; exact ((Ch.refl [] w1).drewN m1).drewN m2))
  have c1 : d1.cell? ⟨n + 1, 1, none⟩ = some (.int .i64 0) := cell_blk SE1.out.out rfl
  have hzd : w.heap.size ≤ d1.heap.size := by rw [hd]; exact hz1
  clear hd
  go_upto_region 5 with fail
  have SD1 := Lib.hid (SE1.out.next (Ch.refl [] d1).drew)
  refine wp_region_still_tail 13 (by kernel_rfl) (by kernel_rfl) ?_
  simp only [List.take_succ_cons, List.take_zero, List.drop_succ_cons, List.drop_zero]
  repeat still_step
  refine wpStill_nil ?_
  change wpList _ _ _ _ _ d1.drew
  refine wpList_append_bs rfl _ _ rfl w.heap.size u1 ([] ++ x1) rfl SD1.out.own (some ⟨p2, o2, none⟩) 15 k2 x2 rfl (by have h := Own.bs' (SD1.out.thg _ (List.mem_cons_self ..)).1 (SD1.out.thg _ (List.mem_cons_self ..)).2; rw [XL.out] at h; exact h) (by have h := LS.out; simp <;> omega) hzd ?_
  intro u2 v2 ho8 hg8 _
  have hm8 := SD1.out.app hg8 ho8 z1 zr (HF.out _ (by simp))
  have T2 := Lib.hid (hm8.gone 15 hrn)
  have a0 : v2.cell? ⟨n + 1, 0, none⟩ = some (.pointer (some ⟨n, 0, none⟩)) := cell_blk hm8.out rfl
  have a1 : v2.cell? ⟨n + 1, 1, none⟩ = some (.int .i64 0) := cell_blk hm8.out rfl
  have af : ∀ j, v2.frozen? ⟨n + 1, j, none⟩ = false := fun j => free_blk hm8.out
  have HGt := Lib.hid (qget_any (T2.out.tq (by simp)) (by simp) (by have h := LS.out; simp [tot]; omega))
  have zv : n + 1 < v2.heap.size := blk_lt hm8.out
  clear hm8 ho8 hg8 c0 c1
  try unfold pt at HGt
  go_wp2_with fail
  refine HGt.out.mono ?_
  rintro e v2' ⟨rfl, hc9, hb9⟩
  have h9 := T2.out.get hrn hc9 hb9
  have e0 : v2'.cell? ⟨n + 1, 0, none⟩ = some (.pointer (some ⟨n, 0, none⟩)) := cell_blk h9.out rfl
  have e1 : v2'.cell? ⟨n + 1, 1, none⟩ = some (.int .i64 15) := cell_blk h9.out rfl
  have ef : ∀ j, v2'.frozen? ⟨n + 1, j, none⟩ = false := fun j => free_blk h9.out
  have S9 := Lib.hid h9
  clear h9 hc9 hb9
  go_wp2_with fail
  obtain ⟨w2, hw⟩ : ∃ w2, w2 = v2'.setCell ⟨n + 1, 1, none⟩ (.int .i64 0) := ⟨_, rfl⟩
  rw [← hw]
  have h2 := S9.out.gone 0 hrn
  rw [← hw] at h2
  have S2 := Lib.hid h2
  have hz2 : w.heap.size ≤ w2.heap.size := h2.ch.size
  clear h2 hw S9 a0 a1 af e0 e1 ef HL HH y0 y1 y2 y3 hmn XL HGt zv hzd SE1 SD1 T2 hz1
  rw [rounds_succ]
  have s := S2.out
  obtain ⟨l1, l2, l3⟩ := LS.out
  have c0 : w2.cell? ⟨n + 1, 0, none⟩ = some (.pointer (some ⟨n, 0, none⟩)) := cell_blk s.out rfl
  have c1 : w2.cell? ⟨n + 1, 1, none⟩ = some (.int .i64 0) := cell_blk s.out rfl
  have ht : tot ((.slice (some ⟨p3, o3, none⟩) 13 k3, x3) :: []) = 13 := by simp [tot, l1, l2, l3]
  obtain ⟨Ab, cb, hbx⟩ := s.box
  have HL := Lib.hid ((olen_any hbx s.out (by decide) (by rw [ht]; decide) (by rw [ht]; decide)).mono (fun e w' h => (⟨h.1.trans (by rw [ht]; rfl), h.2⟩ : e = .returned (.int .i64 13) ∧ ∃ k, w' = w2.drewN k)))
  have hTq := s.tq (by simp)
  have HH := Lib.hid (fun m => (qhead_any (w := w2.drewN m) (hTq.ch ((Ch.refl [] _).drewN m) (by simp) (by simp)) (by simp)).mono (fun e w' h => (⟨h.1.trans (by rw [l3]; rfl), h.2⟩ : e = .returned (.tuple #[.slice (some ⟨p3, o3, none⟩) 13 k3, .int .i64 13, .bool true]) ∧ ∃ k, w' = (w2.drewN m).drewN k)))
  have y0 : IntKind.i64.wrap (13 - 0) = 13 := by rw [IntKind.wrap_i64]; omega
  have y1 : IntKind.i64.wrap 13 = 13 := by rw [IntKind.wrap_i64]; omega
  have y2 : IntKind.i64.wrap (0 + 13) = 13 := by rw [IntKind.wrap_i64]; omega
  have y3 : IntKind.i64.wrap (73 - 13) = 60 := by rw [IntKind.wrap_i64]; omega
  have hmn : ∀ W, (Builtin.min_ #[3, 3] 3 #[.int .i64 73, .int .i64 13]).run Tryz.prog W = .ok (.int .i64 13) W := fun _ => by kernel_rfl
  have XL := Lib.hid l3
  clear s ht hbx hTq l1 l2 l3
  unfold pt at HL HH
  go_wp2_with fail
  refine HL.out.mono ?_
  rintro e _ ⟨rfl, m1, rfl⟩
  go_wp2_with fail
  refine (HH.out m1).mono ?_
  rintro e d2 ⟨rfl, m2, hd⟩
  have SE2 := Lib.hid (S2.out.next (show Ch [] w2 d2 by rw [hd]; exact ((Ch.refl [] w2).drewN m1).drewN m2))
  have c1 : d2.cell? ⟨n + 1, 1, none⟩ = some (.int .i64 0) := cell_blk SE2.out.out rfl
  have hzd : w.heap.size ≤ d2.heap.size := by rw [hd]; exact hz2
  clear hd
  go_upto_region 5 with fail
  have SD2 := Lib.hid (SE2.out.next (Ch.refl [] d2).drew)
  refine wp_region_still_tail 13 (by kernel_rfl) (by kernel_rfl) ?_
  simp only [List.take_succ_cons, List.take_zero, List.drop_succ_cons, List.drop_zero]
  repeat still_step
  refine wpStill_nil ?_
  change wpList _ _ _ _ _ d2.drew
  refine wpList_append_bs rfl _ _ rfl w.heap.size u2 ([] ++ x1 ++ x2) rfl SD2.out.own (some ⟨p3, o3, none⟩) 13 k3 x3 rfl (by have h := Own.bs' (SD2.out.thg _ (List.mem_cons_self ..)).1 (SD2.out.thg _ (List.mem_cons_self ..)).2; rw [XL.out] at h; exact h) (by have h := LS.out; simp <;> omega) hzd ?_
  intro u3 v3 ho8 hg8 _
  have hm8 := SD2.out.app hg8 ho8 z1 zr (HF.out _ (by simp))
  have T3 := Lib.hid (hm8.gone 13 hrn)
  have a0 : v3.cell? ⟨n + 1, 0, none⟩ = some (.pointer (some ⟨n, 0, none⟩)) := cell_blk hm8.out rfl
  have a1 : v3.cell? ⟨n + 1, 1, none⟩ = some (.int .i64 0) := cell_blk hm8.out rfl
  have af : ∀ j, v3.frozen? ⟨n + 1, j, none⟩ = false := fun j => free_blk hm8.out
  have HGt := Lib.hid (qget_any (T3.out.tq (by simp)) (by simp) (by have h := LS.out; simp [tot]; omega))
  have zv : n + 1 < v3.heap.size := blk_lt hm8.out
  clear hm8 ho8 hg8 c0 c1
  try unfold pt at HGt
  go_wp2_with fail
  refine HGt.out.mono ?_
  rintro e v3' ⟨rfl, hc9, hb9⟩
  have h9 := T3.out.get hrn hc9 hb9
  have e0 : v3'.cell? ⟨n + 1, 0, none⟩ = some (.pointer (some ⟨n, 0, none⟩)) := cell_blk h9.out rfl
  have e1 : v3'.cell? ⟨n + 1, 1, none⟩ = some (.int .i64 13) := cell_blk h9.out rfl
  have ef : ∀ j, v3'.frozen? ⟨n + 1, j, none⟩ = false := fun j => free_blk h9.out
  have S9 := Lib.hid h9
  clear h9 hc9 hb9
  go_wp2_with fail
  obtain ⟨w3, hw⟩ : ∃ w3, w3 = v3'.setCell ⟨n + 1, 1, none⟩ (.int .i64 0) := ⟨_, rfl⟩
  rw [← hw]
  have h3 := S9.out.gone 0 hrn
  rw [← hw] at h3
  have S3 := Lib.hid h3
  have hz3 : w.heap.size ≤ w3.heap.size := h3.ch.size
  clear h3 hw S9 a0 a1 af e0 e1 ef HL HH y0 y1 y2 y3 hmn XL HGt zv hzd SE2 SD2 T3 hz2
  rw [rounds_succ]
  obtain ⟨Ab, cb, hbx⟩ := S3.out.box
  have HL := Lib.hid ((olen_any hbx S3.out.out (by decide) (by decide) (by decide)).mono (fun e w' h => (⟨h.1, h.2⟩ : e = .returned (.int .i64 0) ∧ ∃ k, w' = w3.drewN k)))
  clear hbx
  unfold pt at HL
  go_wp2_with fail
  refine HL.out.mono ?_
  rintro e _ ⟨rfl, m1, rfl⟩
  go_wp2_with fail
  go_ret
  have h3 := S3.out.next ((Ch.refl [] w3).drewN m1)
  rw [HW0.out]
  have hno := S0.out.no
  rw [HW0.out] at hno
  refine ⟨_, rfl, ?_, Ch.below (B := n) h3.ch (fun j hj => by simp only [List.mem_cons, List.not_mem_nil, or_false] at hj; omega) (by omega), fun B' v' xs' h => Own.ch h h3.ch hno⟩
  have h := h3.own
  rw [List.nil_append] at h
  exact h
end Go.Proofs.YtnpmafnhbbaokaaGreatDoor
