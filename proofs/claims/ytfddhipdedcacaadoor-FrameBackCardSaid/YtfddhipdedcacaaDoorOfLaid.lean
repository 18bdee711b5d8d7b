/-
  From a row's list of variables to what the walks ask: api's errors and frame's table lie there.
-/
import Derived.Test.YtfddhipdedcacaaDoorAwake4
import Derived.OpenShut
import Derived.LaidMore
import Derived.LaidSub
namespace Go.Proofs.YtfddhipdedcacaaDoor
open Go.RowKit Go.ChangeShapes
set_option linter.unusedVariables false
set_option linter.unusedSimpArgs false

theorem gl_all : (List.range 42).all (fun i => Tryd.prog.globalNamed (snm (i + 1)) == some (sgb (i + 1)) && (Tryd.prog.globals[sgb (i + 1)]?).map (·.type) == some 28) = true := by kernel_rfl
theorem gl_at {n : Nat} (h1 : 1 ≤ n) (h2 : n ≤ 42) : Tryd.prog.globalNamed (snm n) = some (sgb n) ∧ (Tryd.prog.globals[sgb n]?).map (·.type) = some 28 := by
  have h := List.all_eq_true.1 gl_all (n - 1) (List.mem_range.2 (by omega))
  rw [show n - 1 + 1 = n by omega] at h
  simp only [Bool.and_eq_true, beq_iff_eq] at h
  exact h
theorem snm_all : (List.range 42).all (fun i => (List.range 42).all fun j => i == j || snm (i + 1) != snm (j + 1)) = true := by decide +kernel
theorem snm_ne {n m : Nat} (h1 : 1 ≤ n) (h2 : n ≤ 42) (h3 : 1 ≤ m) (h4 : m ≤ 42) (hne : n ≠ m) : snm n ≠ snm m := by
  have h := List.all_eq_true.1 (List.all_eq_true.1 snm_all (n - 1) (List.mem_range.2 (by omega))) (m - 1) (List.mem_range.2 (by omega))
  rw [show n - 1 + 1 = n by omega, show m - 1 + 1 = m by omega] at h
  simp only [Bool.or_eq_true, beq_iff_eq, bne_iff_ne] at h
  rcases h with h | h
  · omega
  · exact h
theorem row_es (u : TypeId) (h : Tryd.prog.typeName? 3 u = some "*errors.errorString") : u = 175 :=
  typeName_ptr_named (nm := "errors.errorString") (by rw [show "*" ++ "errors.errorString" = "*errors.errorString" by decide]; kernel_rfl) (by kernel_rfl) (by decide) u (by rw [show "*" ++ "errors.errorString" = "*errors.errorString" by decide]; exact h)

theorem sent_of {W : World} {l : List (String × DataW Unit)} (h : laidMet Tryd.prog l W) {n : Nat} (h1 : 1 ≤ n) (h2 : n ≤ 42) (hm : sentD (snm n) (stx n) ∈ l) : ∃ a, SentAt W 175 (sgb n) a :=
  laid_one h hm (gl_at h1 h2).1 (gl_at h1 h2).2 Tryd.underlying28 row_es Tryd.underlying175 Tryd.underlying193 rfl rfl Tryd.underlying9 (by kernel_rfl) (by kernel_rfl)

theorem good_of {W : World} {l : List (String × DataW Unit)} (h : laidMet Tryd.prog l W) (hm : ∀ n, 1 ≤ n → n ≤ 42 → sentD (snm n) (stx n) ∈ l) : ∃ sa, Good W sa := by
  have hx : ∀ n, ∃ a, 1 ≤ n → n ≤ 42 → SentAt W 175 (sgb n) a := fun n => by
    by_cases hn : 1 ≤ n ∧ n ≤ 42
    · obtain ⟨a, ha⟩ := sent_of h hn.1 hn.2 (hm n hn.1 hn.2)
      exact ⟨a, fun _ _ => ha⟩
    · exact ⟨⟨0, 0, none⟩, fun a b => absurd ⟨a, b⟩ hn⟩
  refine ⟨fun n => Classical.choose (hx n), fun n h1 h2 => Classical.choose_spec (hx n) h1 h2, fun n m h1 h2 h3 h4 hne => ?_⟩
  exact laid_ne h (hm n h1 h2) (hm m h3 h4) (snm_ne h1 h2 h3 h4 hne) (gl_at h1 h2).1 (gl_at h1 h2).2 (gl_at h3 h4).1 (gl_at h3 h4).2 Tryd.underlying28 row_es Tryd.underlying175 Tryd.underlying193 rfl rfl Tryd.underlying9 (by kernel_rfl) (by kernel_rfl)
    (Classical.choose_spec (hx n) h1 h2) (Classical.choose_spec (hx m) h3 h4)

/-- What one variable's reading is. -/
theorem laid_at {W : World} {l : List (String × DataW Unit)} {n : String} {d : DataW Unit} {g : Nat} {t : TypeId} (h : laidMet Tryd.prog l W) (hx : (n, d) ∈ l) (hg : Tryd.prog.globalNamed n = some g) (ht : (Tryd.prog.globals[g]?).map (·.type) = some t) :
    ∃ cs fuel p, W.var? Tryd.prog n = some cs ∧ DataW.trod (fun _ => ()) Tryd.prog W 0 (fun _ => true) false fuel t cs.toList = some (d, p) := by
  obtain ⟨ps, ⟨g0, t0, cs0, f0, p0, q0, hg0, ht0, hv0, hd0, _, e0⟩, _, hrows⟩ := laidMet_sub (List.singleton_sublist.2 hx) h
  obtain rfl := Option.some.inj (hg.symm.trans hg0)
  obtain rfl := Option.some.inj (ht.symm.trans ht0)
  exact ⟨cs0, f0, p0, hv0, hd0⟩

theorem lits_at {k : IntKind} {zs : List Int} {i : Nat} {d : DataW Unit} (h : (zs.map fun z => (DataW.lit (.int k z) : DataW Unit))[i]? = some d) : d = .lit (.int k (zs.getD i 0)) ∧ i < zs.length := by
  rw [List.getElem?_map] at h
  cases hz : zs[i]? with
  | none => simp [hz] at h
  | some z =>
    have := (List.getElem?_eq_some_iff.1 hz).1
    simp [hz] at h
    refine ⟨?_, this⟩
    rw [List.getD_eq_getElem?_getD, hz, ← h]; rfl

def lawD : DataW Unit := .agg [.slice ((lawL 0).map fun z => .lit (.int .u16 z)) [], .slice ((lawL 1).map fun z => .lit (.int .u16 z)) [], .slice ((lawL 2).map fun z => .lit (.int .u16 z)) [], .slice ((lawL 3).map fun z => .lit (.int .u16 z)) []]

set_option maxRecDepth 100000 in
theorem lawful_of {W : World} {l : List (String × DataW Unit)} (h : laidMet Tryd.prog l W) (hm : ("culvert/frame.lawful", lawD) ∈ l) : Lawful W := by
  obtain ⟨cs, fuel, p, hv, hd⟩ := laid_at h hm (g := 2) (t := 88) (by kernel_rfl) (by kernel_rfl)
  obtain ⟨xs, m1, hx0, hx1, hlen, hn3, hel⟩ := DataW.trod_array Tryd.underlying88 hd
  have c87 : Tryd.prog.cellsOf 87 = 1 := by kernel_rfl
  have c88 : Tryd.prog.cellsOf 88 = 4 := by kernel_rfl
  have c23 : Tryd.prog.cellsOf 23 = 1 := by kernel_rfl
  rw [c88] at hlen
  have hL : lawD = .agg (xs.map (·.1)) := congrArg (·.1) hx1
  have hD : ∀ i, i < 4 → (xs.map (·.1))[i]? = some (.slice ((lawL i).map fun z => .lit (.int .u16 z)) []) := fun i hi => by
    have e : xs.map (·.1) = [.slice ((lawL 0).map fun z => .lit (.int .u16 z)) [], .slice ((lawL 1).map fun z => .lit (.int .u16 z)) [], .slice ((lawL 2).map fun z => .lit (.int .u16 z)) [], .slice ((lawL 3).map fun z => .lit (.int .u16 z)) []] := by
      exact (DataW.agg.inj hL).symm
    rw [e]
    match i, hi with
    | 0, _ => rfl
    | 1, _ => rfl
    | 2, _ => rfl
    | 3, _ => rfl
  refine ⟨fun i hi => ?_⟩
  have hi1 := hel i hi
  rw [c87, Nat.mul_one] at hi1
  have hxi : xs[i]? = some (xs[i]'(by omega)) := List.getElem?_eq_getElem (by omega)
  have hci : cs.toList[i]? = some (cs.toList[i]'(by omega)) := List.getElem?_eq_getElem (by omega)
  have htk : List.take 1 (List.drop i cs.toList) = [cs.toList[i]'(by omega)] := by
    rw [List.drop_eq_getElem_cons (by omega)]; rfl
  rw [htk, hxi] at hi1
  have hdi := hD i hi
  rw [List.getElem?_map, hxi] at hdi
  have hy : (xs[i]'(by omega)).1 = .slice ((lawL i).map fun z => .lit (.int .u16 z)) [] := by simpa using hdi
  obtain ⟨a, cap, hcs, hcap, hrow⟩ := open_row Tryd.underlying87 c23 (hi1.trans (congrArg some (Prod.ext hy rfl)))
  have hval : cs.toList[i]'(by omega) = .slice (some a) (lawL i).length cap := by
    have := (List.cons.inj hcs).1
    simpa using this
  refine ⟨a, cap, ?_, fun j hj => ?_⟩
  · have := World.var?_cell (show Tryd.prog.globalNamed "culvert/frame.lawful" = some 2 by kernel_rfl) hv i
    rw [this, ← hval, ← hci]; simp
  · have hdj : ((lawL i).map fun z => (DataW.lit (.int .u16 z) : DataW Unit))[j]? = some (.lit (.int .u16 ((lawL i).getD j 0))) := by
      rw [List.getElem?_map, List.getElem?_eq_getElem hj]
      simp [List.getD, List.getElem?_eq_getElem hj]
    obtain ⟨v, n, q, hc, ht⟩ := hrow j _ hdj
    obtain ⟨z, e1, e2, _⟩ := DataW.trod_int Tryd.underlying23 ht
    have hz : z = (lawL i).getD j 0 := by
      have := congrArg (·.1) e2
      simpa using this.symm
    rw [hc, ← hz]
    simpa using e1
end Go.Proofs.YtfddhipdedcacaaDoor
