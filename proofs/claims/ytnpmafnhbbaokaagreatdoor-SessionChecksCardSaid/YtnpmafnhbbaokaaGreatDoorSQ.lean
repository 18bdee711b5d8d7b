/-
  fifo: Len, Head, Get of a queue of frames.
-/
import Derived.Test.YtnpmafnhbbaokaaGreatDoorSStep0
namespace Go.Proofs.YtnpmafnhbbaokaaGreatDoor
open Go Go.RowKit
open Go.ChangeMaps (setBlock)
set_option linter.unusedVariables false
set_option linter.unusedSimpArgs false
def fqC (v : Value) (t : Int) : Array Value := #[.int .i64 9223372036854775807, .int .i64 9223372036854775807, v, .int .i64 t]
/-- A queue's first cells lie in block rb from offset o on. -/
structure Tq (w : World) (n rb o cap : Nat) (qs : List (Value × List Int)) : Prop where
  box : w.heap[n]? = some (.cells (fqC (.slice (some ⟨rb, o, none⟩) qs.length cap) (tot qs)) 168 (0, 0))
  row : ∃ cur, w.heap[rb]? = some (.cells cur 234 (0, 0)) ∧ o + 2 * cap ≤ cur.size ∧ ∀ j u, (cel qs)[j]? = some u → cur[o + j]? = some u
  len : qs.length ≤ cap
  max : cap ≤ maxLen
theorem Tq.of {w : World} {n B : Nat} {qs : List (Value × List Int)} {v : Value} (h : Fq w n B qs v) (h0 : 0 < qs.length) : ∃ rb cap, B ≤ rb ∧ Tq w n rb 0 cap qs := by
  rcases h.row.2 with ⟨_, h0'⟩ | ⟨g, cap, cur, h1, hb, hh, hn, hm, hs, ht⟩
  · omega
  · refine ⟨g, cap, hb, by rw [← h1]; exact h.box, ⟨cur, hh, by omega, fun j u hu => ?_⟩, hn, hm⟩
    rw [Nat.zero_add]
    have e : (cel qs)[j]? = some u := hu
    have hj : j < (cel qs).length := (List.getElem?_eq_some_iff.1 hu).1
    rw [cel_len] at hj
    rw [← ht, List.getElem?_take_of_lt (by omega)] at e
    simpa using e
theorem qlen_any {w : World} {n l c : Nat} {A : Option Addr} {t : Int} (hq : w.heap[n]? = some (.cells (fqC (.slice A l c) t) 168 (0, 0))) :
    Calls Tryz.prog 104 #[pt n] w fun e w' => e = .returned (.int .i64 l) ∧ w' = w := by
  have c2 : w.cell? ⟨n, 2, none⟩ = some (.slice A l c) := cell_blk hq rfl
  clear hq
  go_enter Tryz.func104, Tryz.ntmps104
  unfold pt
  go_wp2_with fail
  go_ret
  exact ⟨rfl, rfl⟩
theorem cel_cons (q : Value × List Int) (qs : List (Value × List Int)) : cel (q :: qs) = q.1 :: .int .i64 q.2.length :: cel qs := rfl
theorem Tq.head {w : World} {n rb o cap : Nat} {q : Value × List Int} {qs : List (Value × List Int)} (h : Tq w n rb o cap (q :: qs)) : w.cell? ⟨rb, o, none⟩ = some q.1 ∧ w.cell? ⟨rb, o + 1, none⟩ = some (.int .i64 q.2.length) := by
  obtain ⟨cur, h1, h2, h3⟩ := h.row
  exact ⟨cell_blk h1 (h3 0 _ rfl), cell_blk h1 (h3 1 _ rfl)⟩
set_option maxHeartbeats 1000000 in
theorem qhead_any {w : World} {n rb o cap : Nat} {q : Value × List Int} {qs : List (Value × List Int)} (h : Tq w n rb o cap (q :: qs)) (hl : qs.length ≤ 1000) :
    Calls Tryz.prog 76 #[pt n] w fun e w' => e = .returned (.tuple #[q.1, .int .i64 q.2.length, .bool true]) ∧ ∃ m, w' = w.drewN m := by
  obtain ⟨x0, x1⟩ := h.head
  have HL := Lib.hid (qlen_any h.box)
  have c2 : w.cell? ⟨n, 2, none⟩ = some (.slice (some ⟨rb, o, none⟩) (qs.length + 1) cap) := cell_blk h.box rfl
  have hz : ((qs.length : Int) + 1 == 0) = false := by simp; omega
  have hz' : decide ((0 : Int) < (qs.length : Int) + 1) = true := by simp <;> omega
  obtain ⟨y, l⟩ := q
  clear h
  go_enter Tryz.func76, Tryz.ntmps76
  unfold pt
  go_wp2_with fail
  refine HL.out.mono ?_
  rintro e w ⟨rfl, rfl⟩
  go_wp2_with fail
  go_quiet (fail)
  go_wp2_with fail
  refine bodyPost_ret (v := .tuple #[y, .int .i64 l.length, .bool true]) ?_ rfl ⟨rfl, nq, rfl⟩
  simp [results, Tryz.results76, go_sem]
theorem tot_cons (q : Value × List Int) (qs : List (Value × List Int)) : tot (q :: qs) = q.2.length + tot qs := by simp [tot]
set_option maxHeartbeats 1000000 in
theorem qget_any {w : World} {n rb o cap : Nat} {q : Value × List Int} {qs : List (Value × List Int)} (h : Tq w n rb o cap (q :: qs)) (hl : qs.length ≤ 1000) (ht : tot (q :: qs) ≤ 1000000000) :
    Calls Tryz.prog 77 #[pt n] w fun e w' => e = .returned (.tuple #[q.1, .int .i64 q.2.length, .bool true]) ∧ Ch [rb, n] w w' ∧ ∃ A' c', w'.heap[n]? = some (.cells (fqC (.slice A' qs.length c') (tot qs)) 168 (0, 0)) ∧ (0 < qs.length → Tq w' n rb (o + 2) (cap - 1) qs) ∧ ∃ cu, w'.heap[rb]? = some (.cells cu 234 (0, 0)) := by
  have HH := Lib.hid (qhead_any h hl)
  obtain ⟨i0, hi, hz0, hz1, hz2⟩ := info_parts row_info
  obtain ⟨cur, h1, h2, h3⟩ := h.row
  have hlen := h.len
  have hmax := h.max
  have hne : n ≠ rb := type_ne h.box h1 (by decide)
  have htc := tot_cons q qs
  have hzt : IntKind.i64.wrap ((tot (q :: qs) : Int) - q.2.length) = tot qs := by rw [IntKind.wrap_i64]; omega
  have x0 : w.cell? ⟨rb, o, none⟩ = some q.1 := h.head.1
  have x1 : w.cell? ⟨rb, o + 1, none⟩ = some (.int .i64 q.2.length) := h.head.2
  have xf : ∀ j, w.frozen? ⟨rb, j, none⟩ = false := fun j => free_blk h1
  have c2 : w.cell? ⟨n, 2, none⟩ = some (.slice (some ⟨rb, o, none⟩) (qs.length + 1) cap) := cell_blk h.box rfl
  have c3 : w.cell? ⟨n, 3, none⟩ = some (.int .i64 (tot (q :: qs))) := cell_blk h.box rfl
  have cf : ∀ j, w.frozen? ⟨n, j, none⟩ = false := fun j => free_blk h.box
  have hlq : qs.length + 1 ≤ cap := hlen
  have K := Lib.hid (And.intro h.box (And.intro h1 (And.intro h2 h3)))
  have HHI := Lib.hid hi
  obtain ⟨y, l⟩ := q
  unfold maxLen at hmax
  clear h h1 h2 h3 htc hi hz0 hz1 hz2 hlen
  have hcc : (cap = 1 ∧ qs = []) ∨ 1 < cap := by
    by_cases hc1 : 1 < cap
    · exact .inr hc1
    · exact .inl ⟨by omega, List.eq_nil_of_length_eq_zero (by omega)⟩
  rcases hcc with ⟨rfl, rfl⟩ | hcc
  all_goals
    go_enter Tryz.func77, Tryz.ntmps77
    unfold pt
    go_wp2_with fail
    refine HH.out.mono ?_
    rintro e w1 ⟨rfl, mm, rfl⟩
    go_wp2_with fail
    obtain ⟨hb, h1, h2, h3⟩ := K.out
    have n1 := setO (w := w.drewN mm) (c := rb) (i := o) (.slice none 0 0) hb hne
    have n2 := setO (c := rb) (i := o + 1) (.int .i64 0) n1 hne
    have r1 := set_blk (w := w.drewN mm) (j := o) (.slice none 0 0) h1
    have r2 := set_blk (j := o + 1) (.int .i64 0) r1
    refine bodyPost_ret (v := .tuple #[y, .int .i64 l.length, .bool true]) ?_ rfl ⟨rfl, ?_, _, _, set_is (set_is n2 rfl) rfl, fun h0 => ?_, _, setO _ (setO _ r2 (Ne.symm hne)) (Ne.symm hne)⟩
    · simp [results, Tryz.results77, go_sem]
    · exact (((((Ch.refl [rb, n] w).drewN mm).set (.inl (by simp)) _).set (.inl (by simp)) _).set (.inl (by simp)) _).set (.inl (by simp)) _
    first
    | exact absurd h0 (Nat.lt_irrefl 0)
    | refine ⟨set_is (set_is n2 rfl) rfl, ⟨_, setO _ (setO _ r2 (Ne.symm hne)) (Ne.symm hne), by simp; omega, fun j u hu => ?_⟩, by omega, by unfold maxLen; omega⟩
      have e := h3 (j + 2) u (by rw [cel_cons]; exact hu)
      rw [Array.getElem?_setIfInBounds_ne (by omega), Array.getElem?_setIfInBounds_ne (by omega), show o + 2 + j = o + (j + 2) by omega]
      exact e
end Go.Proofs.YtnpmafnhbbaokaaGreatDoor
