/-
  From a row's list of variables to what the walks ask: api's errors and frame's table lie there.
-/
import Derived.Test.YtnpmafnhbbaokaaGreatDoorCode
import Derived.OpenShut
import Derived.LaidMore
import Derived.LaidSub
namespace Go.Proofs.YtnpmafnhbbaokaaGreatDoor
open Go.RowKit Go.ChangeShapes
set_option linter.unusedVariables false
set_option linter.unusedSimpArgs false

theorem gl_all : (List.range 42).all (fun i => Tryz.prog.globalNamed (snm (i + 1)) == some (sgb (i + 1)) && (Tryz.prog.globals[sgb (i + 1)]?).map (·.type) == some 26) = true := by kernel_rfl
theorem gl_at {n : Nat} (h1 : 1 ≤ n) (h2 : n ≤ 42) : Tryz.prog.globalNamed (snm n) = some (sgb n) ∧ (Tryz.prog.globals[sgb n]?).map (·.type) = some 26 := by
  have h := List.all_eq_true.1 gl_all (n - 1) (List.mem_range.2 (by omega))
  rw [show n - 1 + 1 = n by omega] at h
  simp only [Bool.and_eq_true, beq_iff_eq] at h
  exact h
theorem snm_all : (List.range 42).all (fun i => (List.range 42).all fun j => i == j || snm (i + 1) != snm (j + 1)) = true := by decide +kernel
theorem snm_ne {n m : Nat} (h1 : 1 ≤ n) (h2 : n ≤ 42) (h3 : 1 ≤ m) (h4 : m ≤ 42) (hne : n ≠ m) : snm n ≠ snm m := by
  have h := List.all_eq_true.1 (List.all_eq_true.1 snm_all (n - 1) (List.mem_range.2 (by omega))) (m - 1) (List.mem_range.2 (by omega))
  rw [show n - 1 + 1 = n by omega, show m - 1 + 1 = m by omega] at h
  simp only [Bool.or_eq_true, beq_iff_eq, bne_iff_ne] at h
  rcases h with h | h
  · omega
  · exact h
theorem row_es (u : TypeId) (h : Tryz.prog.typeName? 3 u = some "*errors.errorString") : u = 285 :=
  typeName_ptr_named (nm := "errors.errorString") (by rw [show "*" ++ "errors.errorString" = "*errors.errorString" by decide]; kernel_rfl) (by kernel_rfl) (by decide) u (by rw [show "*" ++ "errors.errorString" = "*errors.errorString" by decide]; exact h)

theorem sent_of {W : World} {l : List (String × DataW Unit)} (h : laidMet Tryz.prog l W) {n : Nat} (h1 : 1 ≤ n) (h2 : n ≤ 42) (hm : sentD (snm n) (stx n) ∈ l) : ∃ a, SentAt W 285 (sgb n) a :=
  laid_one h hm (gl_at h1 h2).1 (gl_at h1 h2).2 Tryz.underlying26 row_es Tryz.underlying285 Tryz.underlying309 rfl rfl Tryz.underlying9 (by kernel_rfl) (by kernel_rfl)

theorem good_of {W : World} {l : List (String × DataW Unit)} (h : laidMet Tryz.prog l W) (hm : ∀ n, 1 ≤ n → n ≤ 42 → inG n = true → sentD (snm n) (stx n) ∈ l) : ∃ sa, Good W sa := by
  have hx : ∀ n, ∃ a, 1 ≤ n → n ≤ 42 → inG n = true → SentAt W 285 (sgb n) a := fun n => by
    by_cases hn : 1 ≤ n ∧ n ≤ 42 ∧ inG n = true
    · obtain ⟨a, ha⟩ := sent_of h hn.1 hn.2.1 (hm n hn.1 hn.2.1 hn.2.2)
      exact ⟨a, fun _ _ _ => ha⟩
    · exact ⟨⟨0, 0, none⟩, fun a b c => absurd ⟨a, b, c⟩ hn⟩
  refine ⟨fun n => Classical.choose (hx n), fun n h1 h2 hi => Classical.choose_spec (hx n) h1 h2 hi, fun n m h1 h2 h3 h4 hne hi hj => ?_⟩
  exact laid_ne h (hm n h1 h2 hi) (hm m h3 h4 hj) (snm_ne h1 h2 h3 h4 hne) (gl_at h1 h2).1 (gl_at h1 h2).2 (gl_at h3 h4).1 (gl_at h3 h4).2 Tryz.underlying26 row_es Tryz.underlying285 Tryz.underlying309 rfl rfl Tryz.underlying9 (by kernel_rfl) (by kernel_rfl)
    (Classical.choose_spec (hx n) h1 h2 hi) (Classical.choose_spec (hx m) h3 h4 hj)

/-- What one variable's reading is. -/
theorem laid_at {W : World} {l : List (String × DataW Unit)} {n : String} {d : DataW Unit} {g : Nat} {t : TypeId} (h : laidMet Tryz.prog l W) (hx : (n, d) ∈ l) (hg : Tryz.prog.globalNamed n = some g) (ht : (Tryz.prog.globals[g]?).map (·.type) = some t) :
    ∃ cs fuel p, W.var? Tryz.prog n = some cs ∧ DataW.trod (fun _ => ()) Tryz.prog W 0 (fun _ => true) false fuel t cs.toList = some (d, p) := by
  obtain ⟨ps, ⟨g0, t0, cs0, f0, p0, q0, hg0, ht0, hv0, hd0, _, e0⟩, _, hrows⟩ := laidMet_sub (List.singleton_sublist.2 hx) h
  obtain rfl := Option.some.inj (hg.symm.trans hg0)
  obtain rfl := Option.some.inj (ht.symm.trans ht0)
  exact ⟨cs0, f0, p0, hv0, hd0⟩

theorem lits_at {k : IntKind} {zs : List Int} {i : Nat} {d : DataW Unit} (h : (zs.map fun z => (DataW.lit (.int k z) : DataW Unit))[i]? = some d) : d = .lit (.int k (zs.getD i 0)) ∧ i < zs.length := by
  rw [List.getElem?_map] at h
  cases hz : zs[i]? with
  | none => simp [hz] at h
  | some z =>
    have := (List.getElem?_eq_some_iff.1 hz).1
    simp [hz] at h
    refine ⟨?_, this⟩
    rw [List.getD_eq_getElem?_getD, hz, ← h]; rfl


