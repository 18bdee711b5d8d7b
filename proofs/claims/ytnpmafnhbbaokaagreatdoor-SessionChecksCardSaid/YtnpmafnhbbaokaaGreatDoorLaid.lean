/-
  What a row's list of package-level variables gives: of every listed error made by errors.New its pointer, and that two of them are two pointers. Of whatever program.
-/
import Derived.LaidSub
import Derived.Stop.LaidErr
import Derived.Stop.LaidTwo
import Derived.MakeChecks
import Derived.Below
namespace Go.Proofs.YtnpmafnhbbaokaaGreatDoor
open Go.RowKit

theorem laidVars_sub {P : Program} {w : World} : ∀ {l l' : List (String × DataW Unit)} {ps : List MemPlace}, l'.Sublist l → DataW.LaidVars P w l ps → ∃ ps', DataW.LaidVars P w l' ps' ∧ ps'.Sublist ps
  | [], l', ps, hs, h => by
    obtain rfl : l' = [] := List.sublist_nil.1 hs
    exact ⟨ps, h, List.Sublist.refl _⟩
  | (n, d) :: r, l', ps, hs, h => by
    obtain ⟨g, t, cs, fuel, p, q, e1, e2, e3, e4, hr, rfl⟩ := h
    cases hs with
    | cons _ hs =>
      obtain ⟨q', hq, hs'⟩ := laidVars_sub hs hr
      exact ⟨q', hq, hs'.trans (List.sublist_append_right _ _)⟩
    | cons_cons _ hs =>
      obtain ⟨q', hq, hs'⟩ := laidVars_sub hs hr
      exact ⟨_, ⟨g, t, cs, fuel, p, q', e1, e2, e3, e4, hq, rfl⟩, List.Sublist.append (List.Sublist.refl _) hs'⟩

theorem laidMet_sub {P : Program} {w : World} {l l' : List (String × DataW Unit)} (hs : l'.Sublist l) (h : laidMet P l w) : laidMet P l' w := by
  obtain ⟨ps, hl, hnd, hrows⟩ := h
  obtain ⟨ps', hl', hs'⟩ := laidVars_sub hs hl
  exact ⟨ps', hl', hnd.sublist hs', fun b off hp => hrows b off (hs'.subset hp)⟩

theorem pair_sub {α : Type} {x y : α} (hne : x ≠ y) : ∀ {l : List α}, x ∈ l → y ∈ l → [x, y].Sublist l ∨ [y, x].Sublist l
  | z :: l, hx, hy => by
    rcases List.mem_cons.1 hx with rfl | hx'
    · rcases List.mem_cons.1 hy with rfl | hy'
      · exact absurd rfl hne
      · exact .inl ((List.singleton_sublist.2 hy').cons_cons _)
    · rcases List.mem_cons.1 hy with rfl | hy'
      · exact .inr ((List.singleton_sublist.2 hx').cons_cons _)
      · rcases pair_sub hne hx' hy' with h | h
        · exact .inl (h.cons _)
        · exact .inr (h.cons _)

/-- A listed error: its name, its text. -/
def sentD (n : String) (text : List UInt8) : String × DataW Unit := (n, .iface "*errors.errorString" (.ptr (.agg [.lit (.string text)])))

/-- What one listed error's variable holds. -/
structure SentAt (w : World) (tp : TypeId) (g : Nat) (a : Addr) : Prop where
  glob : w.cell? ⟨g, 0, none⟩ = some (.iface tp (.pointer (some a)))
  row : ∃ cs t, w.heap[a.block]? = some (.cells cs t (0, 0))

theorem SentAt.below {w w' : World} {tp : TypeId} {g : Nat} {a : Addr} {B : Nat} (h : SentAt w tp g a) (hg : g < B) (ha : a.block < B) (hb : Below B w w') : SentAt w' tp g a := by
  obtain ⟨h1, cs, t, h2⟩ := h
  exact ⟨(hb.cell (p := ⟨g, 0, none⟩) hg).trans h1, cs, t, (hb.block _ ha).trans h2⟩
theorem SentAt.glt {w : World} {tp : TypeId} {g : Nat} {a : Addr} (h : SentAt w tp g a) : g < w.heap.size := World.block_lt_of_cell? w ⟨g, 0, none⟩ h.glob
theorem SentAt.alt {w : World} {tp : TypeId} {g : Nat} {a : Addr} (h : SentAt w tp g a) : a.block < w.heap.size := by
  obtain ⟨_, cs, t, h2⟩ := h
  exact (Array.getElem?_eq_some_iff.1 h2).1

section
variable {P : Program} {W : World} {ti tp te ts : TypeId} {ms : Array (String × TypeId)} {f : Field}

theorem laid_one {n : String} {text : List UInt8} {l : List (String × DataW Unit)} {g : Nat} (h : laidMet P l W) (hx : sentD n text ∈ l)
    (hg : P.globalNamed n = some g) (ht : (P.globals[g]?).map (·.type) = some ti) (hi : P.underlying ti = some (.interface ms)) (hrow : ∀ u, P.typeName? 3 u = some "*errors.errorString" → u = tp)
    (hp : P.underlying tp = some (.pointer te)) (he : P.underlying te = some (.struct #[f])) (hft : f.type = ts) (hfo : f.offset = 0) (hs : P.underlying ts = some .string) (hc : P.cellsOf te = 1) (hcs : P.cellsOf ts = 1) :
    ∃ a, SentAt W tp g a := by
  have h1 := laidMet_sub (List.singleton_sublist.2 hx) h
  have h1c := h1
  obtain ⟨ps, ⟨g0, t0, cs0, f0, p0, q0, hg0, ht0, hv0, hd0, _, e0⟩, _, hrows⟩ := h1c
  obtain rfl := Option.some.inj (hg.symm.trans hg0)
  obtain rfl := Option.some.inj (ht.symm.trans ht0)
  subst e0
  obtain ⟨l0⟩ := cs0
  have ok0 : ∀ u v, l0 = [.iface u v] → Value.okWide P W .any 0 u v := fun u v e => by
    subst e
    exact (hrows g 0 (by simp [MemPlace.row])).2 u v (by simpa using World.var?_cell hg0 hv0 0)
  obtain ⟨a0, s0, rfl, hc0, hs0, hz0, rfl⟩ := errorString_of_trod hi hrow hp he hft hfo hs hc hcs hd0 ok0
  refine ⟨a0, ?_, (hrows a0.block a0.off (by simp [MemPlace.row])).1⟩
  simpa using World.var?_cell hg0 hv0 0

theorem laid_two {n0 n1 : String} {text0 text1 : List UInt8} {g0 g1 : Nat} {a0 a1 : Addr} {r : List (String × DataW Unit)} (h : laidMet P (sentD n0 text0 :: sentD n1 text1 :: r) W)
    (hg0 : P.globalNamed n0 = some g0) (ht0 : (P.globals[g0]?).map (·.type) = some ti) (hg1 : P.globalNamed n1 = some g1) (ht1 : (P.globals[g1]?).map (·.type) = some ti)
    (hi : P.underlying ti = some (.interface ms)) (hrow : ∀ u, P.typeName? 3 u = some "*errors.errorString" → u = tp)
    (hp : P.underlying tp = some (.pointer te)) (he : P.underlying te = some (.struct #[f])) (hft : f.type = ts) (hfo : f.offset = 0) (hs : P.underlying ts = some .string) (hc : P.cellsOf te = 1) (hcs : P.cellsOf ts = 1)
    (s0 : SentAt W tp g0 a0) (s1 : SentAt W tp g1 a1) : a0 ≠ a1 := by
  obtain ⟨b0, b1, t0, t1, c0, c1, u0, u1, hv0, hv1, _, _, _, _, _, _, hne, _, _⟩ := laid_sentinels2 h hg0 ht0 hg1 ht1 hi hrow hp he hft hfo hs hc hcs
  have e0 := (by simpa using World.var?_cell hg0 hv0 0 : W.cell? ⟨g0, 0, none⟩ = some (.iface tp (.pointer (some b0))))
  have e1 := (by simpa using World.var?_cell hg1 hv1 0 : W.cell? ⟨g1, 0, none⟩ = some (.iface tp (.pointer (some b1))))
  have f0 := s0.glob.symm.trans e0
  have f1 := s1.glob.symm.trans e1
  simp only [Option.some.injEq, Value.iface.injEq, Value.pointer.injEq, true_and] at f0 f1
  rw [f0, f1]
  exact hne

theorem laid_ne {n0 n1 : String} {text0 text1 : List UInt8} {g0 g1 : Nat} {a0 a1 : Addr} {l : List (String × DataW Unit)} (h : laidMet P l W) (hx : sentD n0 text0 ∈ l) (hy : sentD n1 text1 ∈ l) (hn : n0 ≠ n1)
    (hg0 : P.globalNamed n0 = some g0) (ht0 : (P.globals[g0]?).map (·.type) = some ti) (hg1 : P.globalNamed n1 = some g1) (ht1 : (P.globals[g1]?).map (·.type) = some ti)
    (hi : P.underlying ti = some (.interface ms)) (hrow : ∀ u, P.typeName? 3 u = some "*errors.errorString" → u = tp)
    (hp : P.underlying tp = some (.pointer te)) (he : P.underlying te = some (.struct #[f])) (hft : f.type = ts) (hfo : f.offset = 0) (hs : P.underlying ts = some .string) (hc : P.cellsOf te = 1) (hcs : P.cellsOf ts = 1)
    (s0 : SentAt W tp g0 a0) (s1 : SentAt W tp g1 a1) : a0 ≠ a1 := by
  rcases pair_sub (x := sentD n0 text0) (y := sentD n1 text1) (fun e => hn (congrArg (·.1) e)) hx hy with hs' | hs'
  · exact laid_two (laidMet_sub hs' h) hg0 ht0 hg1 ht1 hi hrow hp he hft hfo hs hc hcs s0 s1
  · exact (laid_two (laidMet_sub hs' h) hg1 ht1 hg0 ht0 hi hrow hp he hft hfo hs hc hcs s1 s0).symm
end
end Go.Proofs.YtnpmafnhbbaokaaGreatDoor
