/-
  A list of bytes, as it lies there; what is appended to a list of bytes that the call itself made.
-/
import Derived.Test.YtnpmafnhbbaokaaGreatDoorNum
import Derived.Laws.AppendOwnNone
namespace Go.Proofs.YtnpmafnhbbaokaaGreatDoor
open Go.RowKit
set_option linter.unusedVariables false
set_option linter.unusedSimpArgs false

def gd (xs : List Int) (j : Nat) : Int := xs.getD j 0
def Bytes (xs : List Int) : Prop := ∀ j, 0 ≤ gd xs j ∧ gd xs j ≤ 255
theorem byte_at {xs : List Int} {k : Nat} {z : Int} (hx : ∀ x ∈ xs, 0 ≤ x ∧ x ≤ 255) (hz : z = xs.getD k 0) : 0 ≤ z ∧ z ≤ 255 := by
  subst hz
  rw [List.getD_eq_getElem?_getD]
  cases h : xs[k]? with
  | none => simp
  | some y => exact hx y (List.mem_of_getElem? h)
theorem gd_drop (xs : List Int) (k j : Nat) : gd (xs.drop k) j = gd xs (k + j) := by
  unfold gd
  simp [List.getD_eq_getElem?_getD]

/-- A list of bytes, as it lies there: nil, or an address. -/
structure Bs (w : World) (A : Option Addr) (n c : Nat) (xs : List Int) : Prop where
  len : xs.length = n
  cap : n ≤ c
  max : c ≤ 9223372036854775807
  byt : ∀ x ∈ xs, 0 ≤ x ∧ x ≤ 255
  nil : A = none → n = 0 ∧ c = 0
  rd : 0 < n → ∃ b o, A = some ⟨b, o, none⟩ ∧ ∀ j, j < n → w.cell? ⟨b, o + j, none⟩ = some (.int .u8 (xs.getD j 0))
theorem Bs.drop {w : World} {b o n c : Nat} {xs : List Int} (h : Bs w (some ⟨b, o, none⟩) n c xs) (k : Nat) (hk : k < n) : Bs w (some ⟨b, o + k, none⟩) (n - k) (c - k) (xs.drop k) := by
  have hl := h.len
  have hc := h.cap
  have hm := h.max
  refine ⟨by simp; omega, by omega, by omega, fun x hx => h.byt x (List.mem_of_mem_drop hx), (fun e => by cases e), fun _ => ⟨b, o + k, rfl, fun j hj => ?_⟩⟩
  obtain ⟨b', o', e, hr⟩ := h.rd (by omega)
  obtain ⟨rfl, rfl⟩ : b = b' ∧ o = o' := by simpa using e
  have := hr (k + j) (by omega)
  rw [← Nat.add_assoc] at this
  rw [this]
  simp [List.getD_eq_getElem?_getD]
theorem Bs.next {w w' : World} {A : Option Addr} {n c : Nat} {xs : List Int} (h : Bs w A n c xs) (hb : Below w.heap.size w w') : Bs w' A n c xs :=
  ⟨h.len, h.cap, h.max, h.byt, h.nil, fun hn => by
    obtain ⟨b, o, e, hr⟩ := h.rd hn
    exact ⟨b, o, e, fun j hj => (hb.cell (World.block_lt_of_cell? w _ (hr j hj))).trans (hr j hj)⟩⟩
theorem Bs.bytes {w : World} {A : Option Addr} {n c : Nat} {xs : List Int} (h : Bs w A n c xs) : Bytes xs := fun j => byte_at h.byt rfl

/-- A row of bytes of the call's own. -/
def Own (w : World) (base : Nat) (v : Value) (xs : List Int) : Prop := w.ownsRow base 5 1 v xs.length (nums .u8 xs)
theorem Own.next {w w1 : World} {base : Nat} {v : Value} {xs : List Int} (h : Own w base v xs) (hb : Below w.heap.size w w1) : Own w1 base v xs :=
  World.ownsRow.kept h (row := none) ⟨hb.os, hb.tape, hb.output, hb.size, fun i hi _ => hb.block i hi⟩ (by cases v.ownBlock <;> simp)
/-- Its shape, and what is read of it. -/
theorem Own.bs {w : World} {base : Nat} {v : Value} {xs : List Int} (h : Own w base v xs) (hx : ∀ x ∈ xs, 0 ≤ x ∧ x ≤ 255) : ∃ A c, v = .slice A xs.length c ∧ Bs w A xs.length c xs := by
  rcases h.2 with ⟨rfl, h0⟩ | ⟨g, cap, cur, rfl, hb, hh, hn, hm, hs, ht⟩
  · exact ⟨none, 0, by rw [h0], rfl, by omega, by omega, hx, fun _ => ⟨h0, rfl⟩, fun h => by omega⟩
  · refine ⟨_, cap, rfl, rfl, hn, by simpa [maxLen] using hm, hx, (fun e => by cases e), fun _ => ⟨g, 0, rfl, fun j hj => ?_⟩⟩
    have hown : w.ownsRow base 5 1 (.slice (some ⟨g, 0, none⟩) xs.length cap) xs.length (nums .u8 xs) := h
    rw [Nat.zero_add, hown.cellAt j (by omega)]
    simp [nums, List.getD_eq_getElem?_getD, List.getElem?_eq_getElem hj]
theorem own_new (w : World) (t : Nat) (xs : List Int) (hb : t ≤ w.heap.size) (hm : xs.length ≤ 9223372036854775807) : Own (w.alloc (.cells (nums .u8 xs).toArray 5)) t (.slice (some ⟨w.heap.size, 0, none⟩) xs.length xs.length) xs :=
  own_block hb (alloc_at _ _) (by simp) (nums_length _ _) (by unfold maxLen; omega)
theorem nums_oneC (k : IntKind) (xs : List Int) : ∀ u ∈ nums k xs, u.oneCell' = true := by
  intro u hu
  obtain ⟨_, _, rfl⟩ := List.mem_map.1 hu
  rfl

/-- 'append(v, x...)' where v is a row of the call's own and x any list of bytes. -/
theorem wpList_append_bs {w : World} {ops : Array Oper} {rest : List Oper} {o : Oper} {a : Act} {Q : Exit → Act → World → Prop} (hgd : o.guard = none) (s x : Operand)
    (ho : o.op = .call { callee := .builtin .append, args := #[s, x], argTypes := #[40, 40] })
    (base : Nat) (v : Value) (ys : List Int) (hs : a.eval s = v) (hown : Own w base v ys) (A : Option Addr) (n c : Nat) (xs : List Int) (hx : a.eval x = .slice A n c) (hB : Bs w A n c xs)
    (h63 : ys.length + n ≤ 140737488355328) (hbase : base ≤ w.heap.size)
    (h : ∀ v' w', Own w' base v' (ys ++ xs) → w.grownBy w' v.ownBlock → (v' = .slice none 0 0 ↔ v = .slice none 0 0 ∧ n = 0) → wpList Tryz.prog ops Q rest (a.put o.dst v') w') : wpList Tryz.prog ops Q (o :: rest) a w := by
  obtain ⟨i0, hi, hz0, hz1, hz2⟩ := info_parts u8_info
  have hl := hB.len
  cases A with
  | none =>
    obtain ⟨rfl, rfl⟩ := hB.nil rfl
    obtain rfl : xs = [] := List.eq_nil_of_length_eq_zero hl
    refine wpList_append_own_none hgd s x 40 ho base 5 i0 1 Tryz.underlying40 hi v _ _ hs hown hx ?_
    exact h v w (by rw [List.append_nil]; exact hown) (World.grownBy.refl _ _) ⟨fun e => ⟨e, rfl⟩, fun e => e.1⟩
  | some ad =>
    refine wpList_append_own w hgd s x 40 ho base 5 i0 (.int .u8 0) 1 1 Tryz.underlying40 hi hz0 hz1 hz2 rfl (by decide) v _ _ hs hown ad n c (nums .u8 xs) hx (by rw [nums_length]; omega) ?_ (nums_oneC _ _) (by unfold maxLen; omega) (by omega) hbase ?_
    · intro j u hu
      have hj : j < n := by
        have := (List.getElem?_eq_some_iff.1 hu).1
        rw [nums_length] at this; omega
      obtain ⟨b, o', e, hr⟩ := hB.rd (by omega)
      obtain rfl := Option.some.inj e
      rw [Addr.add_lit, hr j hj, ← hu]
      simp [nums, List.getD_eq_getElem?_getD, List.getElem?_eq_getElem (show j < xs.length by omega)]
    · intro v' w' h1 h2 h3
      refine h v' w' ?_ h2 h3
      unfold Own
      rw [List.length_append, hl, nums_append]
      exact h1
end Go.Proofs.YtnpmafnhbbaokaaGreatDoor
