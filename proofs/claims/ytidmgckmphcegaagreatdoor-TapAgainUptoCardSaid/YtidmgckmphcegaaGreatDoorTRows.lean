/-
  Lists of byte lists of the call's own, as they lie.
-/
import Derived.Test.YtidmgckmphcegaaGreatDoorMD
import Derived.Test.YtidmgckmphcegaaGreatDoorMC
import Derived.Test.YtidmgckmphcegaaGreatDoorWNEv
namespace Go.Proofs.YtidmgckmphcegaaGreatDoor
open Go.RowKit Go.Proofs.YtidmgckmphcegaaGreatDoorW.PrintWords Go.Proofs.YtidmgckmphcegaaGreatDoorW.PrintLast Go.Proofs.YtidmgckmphcegaaGreatDoor.Px
set_option linter.unusedVariables false
set_option linter.unusedSimpArgs false
/-- A raw row by its cells. -/
theorem raw_cells1 {e base : Nat} {W : World} {ok : Nat → Prop} {v : Value} {rows : List (List Value)} (h : Kd.N (Kd.raw 1) e W base ok v rows) :
    ∃ A c g, v = .slice A rows.length c ∧ rows.length ≤ c ∧ c ≤ 9223372036854775807 ∧ (0 < rows.length → A = some ⟨g, 0, none⟩) ∧ ∀ (i : Nat) r, rows[i]? = some [r] → W.cell? ⟨g, i, none⟩ = some r := by
  have hN := h
  obtain ⟨_, rows', hl, hR, _⟩ := h
  obtain ⟨inner, ho⟩ := Kd.R_own hR
  rcases ho.2 with ⟨rfl, hz⟩ | ⟨g, cap, cur, rfl, hb, hh, hn, hm, hs, ht⟩
  · have hz' : rows.length = 0 := by rw [← hl]; exact hz
    exact ⟨none, 0, 0, by rw [hz'], by omega, by omega, fun h1 => by omega, fun i r hr => by have := (List.getElem?_eq_some_iff.1 hr).1; omega⟩
  · refine ⟨some ⟨g, 0, none⟩, cap, g, by rw [hl], by rw [← hl]; exact hn, by simpa [maxLen] using hm, fun _ => rfl, fun i r hr => ?_⟩
    obtain ⟨hi, hir⟩ := List.getElem?_eq_some_iff.1 hr
    obtain ⟨c, hcl, hK, hcc, hfr⟩ := Kd.N_elem hN [] (i : Int) (by omega) (by omega)
    have hc : c = [r] := by
      have h2 := (Kd.FK_now hK).1
      rw [h2, Int.toNat_natCast, List.getD_eq_getElem?_getD, hr]
      rfl
    subst hc
    have := hcc 0 r rfl
    simp only [Int.toNat_natCast, Nat.add_zero] at this
    have e : i * (Kd.raw 1).sz = i := Nat.mul_one i
    rw [e] at this
    exact this
/-- A list of slices of the call's own. -/
def SL (W : World) (base : Nat) (u : Value) (vs : List Value) : Prop := Kd.N (Kd.raw 1) 26 W base (fun k => base ≤ k) u (vs.map fun v => [v])
theorem SL_nil (W : World) (base : Nat) : SL W base (.slice none 0 0) [] := Kd.N_nil _ _ _ _ _
theorem SL.below {W W' : World} {base : Nat} {u : Value} {vs : List Value} (h : SL W base u vs) (hb : Below W.heap.size W W') : SL W' base u vs := Kd.N_below h hb
theorem SL.own {W : World} {base : Nat} {u : Value} {vs : List Value} (h : SL W base u vs) : ∀ k, u.ownBlock = some k → base ≤ k ∧ k < W.heap.size := fun k hk => ⟨h.1 k hk, Kd.N_lt h k hk⟩
theorem sl_info : (Tryz.prog.info? 26).map (fun i => (i.zero, i.size, i.bytes)) = some (some (.slice none 0 0), 1, 24) := by kernel_rfl
/-- append(u, a slice), behind 'at_builtin'. -/
theorem sl_append {w0 W : World} {ops : Array Oper} {rest : List Oper} {o : Oper} {a : Act} {Q : Exit → Act → World → Prop} (hgd : o.guard = none) (s x : Operand)
    (ho : o.op = .call { callee := .builtin .append, args := #[s, x], argTypes := #[53, 53] })
    (u : Value) (vs : List Value) (v : Value) (hv : v.oneCell' = true)
    (hs : a.eval s = u) (hx : a.eval x = .slice (some ⟨W.heap.size, 0, none⟩) 1 1) (HO : SL W w0.heap.size u vs) (HB : Below w0.heap.size w0 W) (hl : vs.length ≤ 1099511627776)
    (h : ∀ v1 w1, SL w1 w0.heap.size v1 (vs ++ [v]) → Below w0.heap.size w0 w1 → W.grownBy w1 u.ownBlock → wpList Tryz.prog ops Q rest (a.put o.dst v1) w1) :
    wpList Tryz.prog ops Q (o :: rest) a (W.alloc (.cells #[v] 26)) :=
  Kd.N_append (P := Tryz.prog) (Kd.raw 1) (w0 := w0) (W := W) w0.heap.size hgd s x 53 26 (.slice none 0 0) 24 ho Tryz.underlying53 sl_info rfl (by decide) (by omega) u (vs.map fun v => [v]) [v] [v] (fun k => w0.heap.size ≤ k) (fun _ => False) hs hx
    (fun W' _ => ⟨rfl, rfl, fun u hu => by obtain rfl := List.mem_singleton.1 hu; exact hv⟩) (fun _ h => h.elim) (fun k hk => Nat.le_trans HB.size hk) HO HB HB.size (by simp; omega)
    (fun v1 w1 h1 h2 h3 _ => h v1 w1 (by unfold SL; rw [List.map_append]; exact h1) h2 h3)
/-- Read as a list of byte lists. -/
theorem SL.pcs {W : World} {base : Nat} {u : Value} {vs : List Value} {ps : List (List Int)} (h : SL W base u vs) (hl : vs.length = ps.length) (hp : ∀ (j : Nat), j < ps.length → ∃ A' c', vs[j]? = some (.slice A' (ps.getD j []).length c') ∧ Bs W A' (ps.getD j []).length c' (ps.getD j [])) :
    ∃ A c, u = .slice A ps.length c ∧ Pcs W A ps.length c ps := by
  obtain ⟨A, c, g, e, h1, h2, h3, h4⟩ := raw_cells1 h
  have e1 : (vs.map fun v => [v]).length = ps.length := by rw [List.length_map]; exact hl
  rw [e1] at e h1 h3
  refine ⟨A, c, e, rfl, h1, h2, fun hn => ⟨g, 0, h3 hn, fun j hj => ?_⟩⟩
  obtain ⟨A', c', a1, a2⟩ := hp j hj
  refine ⟨A', c', ?_, a2⟩
  rw [Nat.zero_add]
  exact h4 j _ (by rw [List.getElem?_map, a1]; rfl)
/-- One byte list as a list of byte lists, just laid. -/
theorem pcs_one {W : World} {A : Option Addr} {c : Nat} {xs : List Int} (h : Bs W A xs.length c xs) : Pcs (W.alloc (.cells #[.slice A xs.length c] 26)) (some ⟨W.heap.size, 0, none⟩) 1 1 [xs] := by
  refine ⟨rfl, Nat.le_refl _, by omega, fun _ => ⟨W.heap.size, 0, rfl, fun j hj => ?_⟩⟩
  obtain rfl : j = 0 := by omega
  exact ⟨A, c, cell_blk (alloc_at _ _) rfl, h.next ((Below.refl _ _).alloc (Nat.le_refl _) _)⟩
end Go.Proofs.YtidmgckmphcegaaGreatDoor
