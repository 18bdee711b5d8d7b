/-
  'append(v, x...)' of bytes as one operation: for regions that draw.
-/
import Derived.Test.YtnpmafnhbbaokaaGreatDoorBs
namespace Go.Proofs.YtnpmafnhbbaokaaGreatDoor
open Go.RowKit
set_option linter.unusedVariables false
set_option linter.unusedSimpArgs false
theorem wp_append_bs {w : World} {o : Oper} {a : Act} {K : Act → World → Prop} {Q : Exit → Act → World → Prop} (s x : Operand)
    (ho : o.op = .call { callee := .builtin .append, args := #[s, x], argTypes := #[40, 40] })
    (base : Nat) (v : Value) (ys : List Int) (hs : a.eval s = v) (hown : Own w base v ys) (A : Option Addr) (n c : Nat) (xs : List Int) (hx : a.eval x = .slice A n c) (hB : Bs w A n c xs)
    (h63 : ys.length + n ≤ 140737488355328) (hbase : base ≤ w.heap.size)
    (h : ∀ v' w', Own w' base v' (ys ++ xs) → w.grownBy w' v.ownBlock → (v' = .slice none 0 0 ↔ v = .slice none 0 0 ∧ n = 0) → K (a.put o.dst v') w') : o.wp Tryz.prog a w K Q := by
  obtain ⟨i0, hi, hz0, hz1, hz2⟩ := info_parts u8_info
  have hl := hB.len
  cases A with
  | none =>
    obtain ⟨rfl, rfl⟩ := hB.nil rfl
    obtain rfl : xs = [] := List.eq_nil_of_length_eq_zero hl
    have hrun := run_append_owned_none (P := Tryz.prog) (w := w) base 40 o.type 5 i0 1 Tryz.underlying40 hi v _ _ hown
    unfold Oper.wp execOp
    simp only [ho, resolve, invoke, builtin, Sem.run_bind, Sem.run_pure, Result.andThen_ok, List.map_toArray, List.map_cons, List.map_nil, hs, hx, hrun]
    exact h v w (by rw [List.append_nil]; exact hown) (World.grownBy.refl _ _) ⟨fun e => ⟨e, rfl⟩, fun e => e.1⟩
  | some ad =>
    refine wp_append_own w s x 40 ho base 5 i0 (.int .u8 0) 1 1 Tryz.underlying40 hi hz0 hz1 hz2 rfl (by decide) v _ _ hs hown ad n c (nums .u8 xs) hx (by rw [nums_length]; omega) ?_ (nums_oneC _ _) (by unfold maxLen; omega) (by omega) hbase ?_
    · intro j u hu
      have hj : j < n := by
        have := (List.getElem?_eq_some_iff.1 hu).1
        rw [nums_length] at this; omega
      obtain ⟨b, o', e, hr⟩ := hB.rd (by omega)
      obtain rfl := Option.some.inj e
      rw [Addr.add_lit, hr j hj, ← hu]
      simp [nums, List.getD_eq_getElem?_getD, List.getElem?_eq_getElem (show j < xs.length by omega)]
    · intro v' w' h1 h2 h3
      refine h v' w' ?_ h2 h3
      unfold Own
      rw [List.length_append, hl, nums_append]
      exact h1
theorem step_append_bs {w : World} {ops : Array Oper} {o : Oper} {a : Act} {K : Act → World → Prop} {Q : Exit → Act → World → Prop} {E : Prop} (hgd : o.guard = none) (s x : Operand)
    (ho : o.op = .call { callee := .builtin .append, args := #[s, x], argTypes := #[40, 40] })
    (base : Nat) (v : Value) (ys : List Int) (hs : a.eval s = v) (hown : Own w base v ys) (A : Option Addr) (n c : Nat) (xs : List Int) (hx : a.eval x = .slice A n c) (hB : Bs w A n c xs)
    (h63 : ys.length + n ≤ 140737488355328) (hbase : base ≤ w.heap.size)
    (h : ∀ v' w', Own w' base v' (ys ++ xs) → w.grownBy w' v.ownBlock → (v' = .slice none 0 0 ↔ v = .slice none 0 0 ∧ n = 0) → K (a.put o.dst v') w') :
    if Region.wanted o (yielded ops a.tmps) = true then Oper.wp Tryz.prog o a w K Q else E := by
  have hw : Region.wanted o (yielded ops a.tmps) = true := by simp [Region.wanted, hgd]
  rw [if_pos hw]
  exact wp_append_bs s x ho base v ys hs hown A n c xs hx hB h63 hbase h
end Go.Proofs.YtnpmafnhbbaokaaGreatDoor
