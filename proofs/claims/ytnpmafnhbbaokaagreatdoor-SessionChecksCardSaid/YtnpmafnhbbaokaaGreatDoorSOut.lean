/-
  The queue of frames' bytes: fifo.Put, out.Put.
-/
import Derived.Test.YtnpmafnhbbaokaaGreatDoorSStA
import Derived.Test.YtnpmafnhbbaokaaGreatDoorBytes
namespace Go.Proofs.YtnpmafnhbbaokaaGreatDoor
open Go Go.RowKit
open Go.ChangeMaps (setBlock)
set_option linter.unusedVariables false
set_option linter.unusedSimpArgs false
def cel (qs : List (Value × List Int)) : List Value := qs.flatMap fun q => [q.1, .int .i64 q.2.length]
def tot (qs : List (Value × List Int)) : Nat := (qs.map fun q => q.2.length).sum
theorem cel_len (qs : List (Value × List Int)) : (cel qs).length = qs.length * 2 := by
  induction qs with
  | nil => rfl
  | cons q qs ih => simp only [cel, List.flatMap_cons, List.length_append, List.length_cons, List.length_nil] at *; omega
theorem cel_snoc (qs : List (Value × List Int)) (x : Value) (xs : List Int) : cel (qs ++ [(x, xs)]) = cel qs ++ [x, .int .i64 xs.length] := by simp [cel]
theorem tot_snoc (qs : List (Value × List Int)) (x : Value) (xs : List Int) : tot (qs ++ [(x, xs)]) = tot qs + xs.length := by simp [tot]
/-- A queue of byte rows: the fifo's block n; its rows and their bytes lie from block B on. -/
structure Fq (w : World) (n B : Nat) (qs : List (Value × List Int)) (v : Value) : Prop where
  box : w.heap[n]? = some (.cells #[.int .i64 9223372036854775807, .int .i64 9223372036854775807, v, .int .i64 (tot qs)] 168 (0, 0))
  row : w.ownsRow B 234 2 v qs.length (cel qs)
  thg : ∀ q ∈ qs, Own w B q.1 q.2 ∧ ∀ x ∈ q.2, 0 ≤ x ∧ x ≤ 255
theorem owns_step {w w1 : World} {B : Nat} {e : TypeId} {size n : Nat} {v : Value} {xs : List Value} (h : w.ownsRow B e size v n xs) (hk : ∀ k, v.ownBlock = some k → w1.heap[k]? = w.heap[k]?) : w1.ownsRow B e size v n xs := by
  refine ⟨h.1, h.2.imp id fun ⟨g, cap, cur, e1, hb, hh, r⟩ => ⟨g, cap, cur, e1, hb, ?_, r⟩⟩
  rw [hk g (by rw [e1]; rfl)]; exact hh
theorem owns_slice {w : World} {B : Nat} {e : TypeId} {size n : Nat} {v : Value} {xs : List Value} (h : w.ownsRow B e size v n xs) : ∃ A c, v = .slice A n c := by
  rcases h.2 with ⟨h1, h0⟩ | ⟨g, cap, cur, h1, _⟩
  · exact ⟨none, 0, by rw [h1, h0]⟩
  · exact ⟨_, _, h1⟩
theorem owns_type {w : World} {B : Nat} {e : TypeId} {size n : Nat} {v : Value} {xs : List Value} (h : w.ownsRow B e size v n xs) (k : Nat) (hk : v.ownBlock = some k) : ∃ cur, w.heap[k]? = some (.cells cur e (0, 0)) ∧ B ≤ k := by
  rcases h.2 with ⟨h1, _⟩ | ⟨g, cap, cur, h1, hb, hh, _⟩
  · rw [h1] at hk; simp [Value.ownBlock] at hk
  · rw [h1] at hk
    simp [Value.ownBlock] at hk
    subst hk
    exact ⟨cur, hh, hb⟩
/-- The blocks of L hold nothing of a queue. -/
def NoQ (w : World) (L : List Nat) : Prop := ∀ j ∈ L, ∀ cs, w.heap[j]? ≠ some (.cells cs 234 (0, 0)) ∧ w.heap[j]? ≠ some (.cells cs 5 (0, 0))
theorem NoQ.nil (w : World) : NoQ w [] := fun j hj => by cases hj
theorem NoQ.cells {w : World} {L : List Nat} {j : Nat} {c : Array Value} {t : TypeId} {f : Nat × Nat} (h : NoQ w L) (hj : w.heap[j]? = some (.cells c t f)) (h1 : t ≠ 234) (h2 : t ≠ 5) : NoQ w (j :: L) := fun k hk cs => by
  rcases List.mem_cons.1 hk with rfl | hk
  · rw [hj]; exact ⟨fun e => by injection e with e; injection e with _ e _; exact h1 e, fun e => by injection e with e; injection e with _ e _; exact h2 e⟩
  · exact h k hk cs
theorem NoQ.map {w : World} {L : List Nat} {j : Nat} {es : Array MapEntry} {cl : Nat} (h : NoQ w L) (hj : w.heap[j]? = some (.map es cl)) : NoQ w (j :: L) := fun k hk cs => by
  rcases List.mem_cons.1 hk with rfl | hk
  · rw [hj]; exact ⟨(fun e => by cases e), (fun e => by cases e)⟩
  · exact h k hk cs
theorem Fq.step {w w1 : World} {n B : Nat} {qs : List (Value × List Int)} {v : Value} {L : List Nat} (h : Fq w n B qs v) (hc : Ch L w w1) (hn : n ∉ L) (hL : NoQ w L) : Fq w1 n B qs v := by
  refine ⟨hc.at_ h.box hn, owns_step h.row fun k hk => ?_, fun q hq => ⟨owns_step (h.thg q hq).1 fun k hk => ?_, (h.thg q hq).2⟩⟩
  · obtain ⟨cur, hh, _⟩ := owns_type h.row k hk
    exact hc.block k (blk_lt hh) fun hj => (hL k hj cur).1 hh
  · obtain ⟨cur, hh, _⟩ := owns_type (h.thg q hq).1 k hk
    exact hc.block k (blk_lt hh) fun hj => (hL k hj cur).2 hh
theorem row_info : (Tryz.prog.info? 234).map (fun i => (i.zero, i.size, i.bytes)) = some (some (.agg #[.slice none 0 0, .int .i64 0]), 2, 32) := by kernel_rfl
theorem cell_two_new (w : World) (x y : Value) (t : TypeId) : ∀ j u, [x, y][j]? = some u → (w.alloc (.cells #[x, y] t)).cell? ((⟨w.heap.size, 0, none⟩ : Addr).add j) = some u := by
  intro j u hj
  have hb := alloc_at w (.cells #[x, y] t)
  match j, hj with
  | 0, hj => rw [Addr.add_lit]; exact cell_blk hb (by simpa using hj)
  | 1, hj => rw [Addr.add_lit]; exact cell_blk hb (by simpa using hj)
  | k + 2, hj => simp at hj
set_option maxRecDepth 100000 in
set_option maxHeartbeats 2000000 in
theorem fput_any {w : World} {n B : Nat} {qs : List (Value × List Int)} {v : Value} (h : Fq w n B qs v) {A : Option Addr} {xs : List Int} {c : Nat} (hx : Own w B (.slice A xs.length c) xs) (hxb : ∀ x ∈ xs, 0 ≤ x ∧ x ≤ 255) (hB : B ≤ w.heap.size) (hn : n < B) (hq : qs.length ≤ 1000000) (ht : tot qs + xs.length ≤ 1000000000) :
    Calls Tryz.prog 75 #[pt n, .slice A xs.length c, .int .i64 xs.length] w fun e w' => e = .returned .nilIface ∧ Ch (n :: v.ownBlock.toList) w w' ∧ ∃ v', Fq w' n B (qs ++ [(.slice A xs.length c, xs)]) v' := by
  obtain ⟨Av, cv, rfl⟩ := owns_slice h.row
  have c0 : w.cell? ⟨n, 0, none⟩ = some (.int .i64 9223372036854775807) := cell_blk h.box rfl
  have c1 : w.cell? ⟨n, 1, none⟩ = some (.int .i64 9223372036854775807) := cell_blk h.box rfl
  have c2 : w.cell? ⟨n, 2, none⟩ = some (.slice Av qs.length cv) := cell_blk h.box rfl
  have c3 : w.cell? ⟨n, 3, none⟩ = some (.int .i64 (tot qs)) := cell_blk h.box rfl
  have cf : ∀ j, w.frozen? ⟨n, j, none⟩ = false := fun j => free_blk h.box
  have H := Lib.hid h
  have HX := Lib.hid hx
  have HXB := Lib.hid hxb
  have d1 : decide (9223372036854775807 ≤ (qs.length : Int)) = false := by simp; omega
  have z1 : IntKind.i64.wrap (9223372036854775807 - (tot qs : Int)) = 9223372036854775807 - (tot qs : Int) := by rw [IntKind.wrap_i64]; omega
  have d2 : decide (9223372036854775807 - (tot qs : Int) < (xs.length : Int)) = false := by simp; omega
  have d3 : decide ((xs.length : Int) < 0) = false := by simp
  have hlt : n < w.heap.size := blk_lt h.box
  clear h hx hxb
  go_enter Tryz.func75, Tryz.ntmps75
  unfold pt
  go_wp2_with fail
  go_quiet (fail)
  obtain ⟨i0, hi, hz0, hz1, hz2⟩ := info_parts row_info
  have hne : ∀ k, (Value.slice Av qs.length cv).ownBlock = some k → k ≠ n := fun k hk => by
    obtain ⟨cur, hh, hbk⟩ := owns_type H.out.row k hk
    omega
  have HNE := Lib.hid hne
  have HI := Lib.hid hi
  have z5 : IntKind.i64.wrap ((tot qs : Int) + xs.length) = tot qs + xs.length := by rw [IntKind.wrap_i64]; omega
  clear hne hi d1 z1 d2 d3
  go_wp2_with (at_builtin; go_loud (refine wpList_append_own _ rfl _ _ 166 rfl B 234 i0 (.agg #[.slice none 0 0, .int .i64 0]) 2 32 Tryz.underlying166 HI.out hz0 hz1 hz2 rfl (by decide) (.slice Av qs.length cv) qs.length (cel qs) rfl ((show (w.drewN nq).ownsRow B 234 2 (.slice Av qs.length cv) qs.length (cel qs) from H.out.row).alloc _) ⟨w.heap.size, 0, none⟩ 1 1 [.slice A xs.length c, .int .i64 xs.length] rfl rfl (cell_two_new (w.drewN nq) _ _ _) (by simp [Value.oneCell']) (by unfold maxLen; omega) (by omega) (by simp [World.drewN]; omega) ?_; intro v' w2 ho2 hg2 hnn2; obtain ⟨A9, c9, rfl⟩ := owns_slice ho2; have hch2 : Ch (Value.slice Av qs.length cv).ownBlock.toList w w2 := ((Ch.refl _ w).drewN nq |>.alloc _).grown hg2 (fun k hk => .inl (by rw [hk]; simp)); have hn2 := hch2.at_ H.out.box (by intro hm; have := Option.mem_toList.1 hm; exact HNE.out n this rfl); have c2' : w2.cell? ⟨n, 2, none⟩ = some (.slice Av qs.length cv) := cell_blk hn2 rfl; have c3' : w2.cell? ⟨n, 3, none⟩ = some (.int .i64 (tot qs)) := cell_blk hn2 rfl; have cf' : ∀ j, w2.frozen? ⟨n, j, none⟩ = false := fun j => free_blk hn2; have K2 := Lib.hid (And.intro ho2 (And.intro hch2 hn2)); clear ho2 hg2 hnn2 hch2 hn2 c0 c1 c2 c3 cf))
  go_ret
  obtain ⟨ho2, hch2, hn2⟩ := K2.out
  have hc3 : Ch [n] w2 ((w2.setCell ⟨n, 2, none⟩ (.slice A9 (qs.length + 1) c9)).setCell ⟨n, 3, none⟩ (.int .i64 ((tot qs : Int) + xs.length))) := ((Ch.refl _ _).set (.inl (by simp)) _).set (.inl (by simp)) _
  have hcA : Ch (n :: (Value.slice Av qs.length cv).ownBlock.toList) w ((w2.setCell ⟨n, 2, none⟩ (.slice A9 (qs.length + 1) c9)).setCell ⟨n, 3, none⟩ (.int .i64 ((tot qs : Int) + xs.length))) := (hch2.mono (fun j hj => .inl (List.mem_cons_of_mem _ hj))).trans hc3 (fun j hj => .inl (by simp at hj; simp [hj]))
  have hkeep : ∀ y ys, Own w B y ys → Own ((w2.setCell ⟨n, 2, none⟩ (.slice A9 (qs.length + 1) c9)).setCell ⟨n, 3, none⟩ (.int .i64 ((tot qs : Int) + xs.length))) B y ys := fun y ys hy => owns_step hy fun k hk => by
    obtain ⟨cur, hh, hbk⟩ := owns_type hy k hk
    refine hcA.block k (blk_lt hh) fun hm => ?_
    rcases List.mem_cons.1 hm with e | e
    · omega
    · have e' := Option.mem_toList.1 e
      obtain ⟨cur2, hh2, _⟩ := owns_type H.out.row k e'
      exact absurd rfl (type_ne hh hh2 (by decide))
  refine ⟨rfl, hcA, .slice A9 (qs.length + 1) c9, ?_, ?_, ?_⟩
  · refine set_is (set_blk _ hn2) ?_
    rw [tot_snoc]
    push_cast
    rfl
  · rw [cel_snoc, List.length_append]
    exact owns_step ho2 fun k hk => by
      obtain ⟨cur, hh, hbk⟩ := owns_type ho2 k hk
      exact hc3.block k (blk_lt hh) (by simp; omega)
  · intro q hq
    rcases List.mem_append.1 hq with hq | hq
    · exact ⟨hkeep _ _ (H.out.thg q hq).1, (H.out.thg q hq).2⟩
    · rw [List.mem_singleton.1 hq]
      exact ⟨hkeep _ _ HX.out, HXB.out⟩
/-- A frame behind all others. -/
theorem oput_any {w : World} {n B : Nat} {qs : List (Value × List Int)} {v : Value} {og : Value} (h : Fq w n B qs v) (ho : w.heap[n + 1]? = some (.cells #[pt n, og] 103 (0, 0))) (ty fl st ln : Int) (A : Option Addr) (m c : Nat) (xs : List Int) (hx : Bs w A m c xs) (hB : B ≤ w.heap.size) (hn : n + 1 < B) (hq : qs.length ≤ 1000000) (ht : tot qs + 12 + m ≤ 1000000000)
    (f0 : 0 ≤ fl) (f1 : fl ≤ 65535) (s0 : 0 ≤ st) (s1 : st ≤ 4294967295) (l0 : 0 ≤ ln) (l1 : ln ≤ 4294967295) (t0 : 0 ≤ ty) (t1 : ty ≤ 255) (hne : (m : Int) = szF ty ln) :
    Calls Tryz.prog 40 #[pt (n + 1), hdA ty fl st ln (.slice A m c)] w fun e w' => e = .returned .nilIface ∧ Ch (n :: v.ownBlock.toList) w w' ∧ ∃ y v', Fq w' n B (qs ++ [(y, enc 0 ty fl st ln ++ xs)]) v' := by
  have c0 : w.cell? ⟨n + 1, 0, none⟩ = some (pt n) := cell_blk ho rfl
  unfold pt at c0
  obtain ⟨w0, hw0⟩ : ∃ w0, w0 = w.alloc (.cells #[.int .u8 0, .int .u8 ty, .int .u16 fl, .int .u32 st, .int .u32 ln, .slice A m c] 89) := ⟨_, rfl⟩
  have hb0 : Below w.heap.size w w0 := by rw [hw0]; exact (Below.refl _ _).alloc (Nat.le_refl _) _
  have HP := Lib.hid (fbytes_yes 0 ty fl st ln A m c xs w0 (hx.next hb0) f0 f1 s0 s1 l0 l1 hne)
  have HX := Lib.hid hx.byt
  have hxl := hx.len
  have H := Lib.hid h
  have HB0 := Lib.hid hb0
  have HW := Lib.hid hw0
  have HO := Lib.hid ho
  have hlt : n + 1 < w.heap.size := by omega
  clear h ho hx hb0 hw0 c0
  unfold hdA
  go_enter Tryz.func40, Tryz.ntmps40
  unfold pt
  go_wp2_with fail
  rw [← HW.out]
  refine HP.out.mono ?_
  rintro e w1 ⟨y, rfl, hy, hb1⟩
  have hzb : ∀ x ∈ enc 0 ty fl st ln ++ xs, 0 ≤ x ∧ x ≤ 255 := by
    intro x hx'
    rcases List.mem_append.1 hx' with hx' | hx'
    · simp only [enc, List.mem_cons, List.not_mem_nil, or_false] at hx'
      omega
    · exact HX.out x hx'
  have hlen : (enc 0 ty fl st ln ++ xs).length = 12 + m := by rw [List.length_append, hxl]; simp [enc]
  obtain ⟨zs, hzs⟩ : ∃ zs, zs = enc 0 ty fl st ln ++ xs := ⟨_, rfl⟩
  rw [← hzs] at hy hzb hlen
  have HZS := Lib.hid hzs
  clear hzs
  obtain ⟨A1, c1, rfl⟩ := owns_slice hy
  have hB1 := belowT HB0.out hb1
  have h1 := H.out.step (Ch.of_below (L := []) hB1) (by simp) (NoQ.nil _)
  have c0 : w1.cell? ⟨n + 1, 0, none⟩ = some (.pointer (some ⟨n, 0, none⟩)) := cell_blk (keepB hB1 HO.out) rfl
  have hyB : Own w1 B (.slice A1 zs.length c1) zs := by
    obtain ⟨g1, g2⟩ := hy
    refine ⟨g1, g2.imp id fun ⟨g, cap, cur, e1, hb, r⟩ => ⟨g, cap, cur, e1, by have := HB0.out.size; omega, r⟩⟩
  have HF := Lib.hid (fput_any h1 hyB hzb (by have := hB1.size; omega) (by omega) hq (by omega))
  have HB1 := Lib.hid hB1
  have HL := Lib.hid hlen
  clear hb1 hB1 h1 hyB hlen hy hzb
  go_wp2_with fail
  refine HF.out.mono ?_
  rintro e w2 ⟨rfl, hc2, v', h2⟩
  have K := Lib.hid (And.intro hc2 h2)
  clear hc2 h2
  go_wp2_with fail
  go_ret
  obtain ⟨hc2, h2⟩ := K.out
  rw [← HZS.out]
  exact ⟨rfl, (Ch.of_below HB1.out).trans hc2 (fun j hj => .inl hj), _, v', h2⟩
end Go.Proofs.YtnpmafnhbbaokaaGreatDoor
