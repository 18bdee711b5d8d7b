/-
  A configuration as an argument, opened; what the session's tables hold.
-/
import Derived.Test.YtnpmafnhbbaokaaGreatDoorOpen
import Derived.Test.YtnpmafnhbbaokaaGreatDoorOfLaid
import Derived.Test.YtnpmafnhbbaokaaGreatDoorSCheck
import Derived.Test.YtnpmafnhbbaokaaGreatDoorSLane
namespace Go.Proofs.YtnpmafnhbbaokaaGreatDoor
open Go.ChangeShapes Go.WideShapes Go.RowKit Go.Joins Go.Deep
set_option linter.unusedVariables false
section
variable {H : Type} {enc : TypeId × Value → H} {P : Program} {w : World} {base : Nat} {spare : Nat → Bool} {held : Bool}

theorem open_agg8 {r : Reach} {b0 : Nat} {t : TypeId} {f0 f1 f2 f3 f4 f5 f6 f7 : Field} {v : Value} {d : DataW H} {p : List MemPlace} (hs : P.underlying t = some (.struct #[f0, f1, f2, f3, f4, f5, f6, f7])) (hone : oneCellFields P #[f0, f1, f2, f3, f4, f5, f6, f7] = true) (hC : P.cellsOf t = 8)
    (hv : Value.okWide P w r b0 t v) (h : DataW.Trod enc P w base spare held t v d p) :
    ∃ (v0 v1 v2 v3 v4 v5 v6 v7 : Value) (y0 y1 y2 y3 y4 y5 y6 y7 : DataW H × List MemPlace) (n : Nat), v = .agg #[v0, v1, v2, v3, v4, v5, v6, v7] ∧
      DataW.trod enc P w base spare held n f0.type [v0] = some y0 ∧ DataW.trod enc P w base spare held n f1.type [v1] = some y1 ∧ DataW.trod enc P w base spare held n f2.type [v2] = some y2 ∧ DataW.trod enc P w base spare held n f3.type [v3] = some y3 ∧ DataW.trod enc P w base spare held n f4.type [v4] = some y4 ∧ DataW.trod enc P w base spare held n f5.type [v5] = some y5 ∧ DataW.trod enc P w base spare held n f6.type [v6] = some y6 ∧ DataW.trod enc P w base spare held n f7.type [v7] = some y7 := by
  obtain ⟨cs, rfl, hsz⟩ := okWide_struct hs hv
  obtain ⟨l⟩ := cs
  match l, hsz.trans hC with
  | [c0, c1, c2, c3, c4, c5, c6, c7], _ =>
    obtain ⟨fuel, hf⟩ := h
    obtain ⟨xs, n, _, hx, _, hlen, hg⟩ := DataW.trod_struct hs hf
    obtain ⟨o0, k0⟩ := hone_of hone 0 f0 rfl
    obtain ⟨o1, k1⟩ := hone_of hone 1 f1 rfl
    obtain ⟨o2, k2⟩ := hone_of hone 2 f2 rfl
    obtain ⟨o3, k3⟩ := hone_of hone 3 f3 rfl
    obtain ⟨o4, k4⟩ := hone_of hone 4 f4 rfl
    obtain ⟨o5, k5⟩ := hone_of hone 5 f5 rfl
    obtain ⟨o6, k6⟩ := hone_of hone 6 f6 rfl
    obtain ⟨o7, k7⟩ := hone_of hone 7 f7 rfl
    match xs, hlen with
    | [y0, y1, y2, y3, y4, y5, y6, y7], _ =>
      exact ⟨c0, c1, c2, c3, c4, c5, c6, c7, y0, y1, y2, y3, y4, y5, y6, y7, n, rfl, by simpa [Value.cells, o0, k0] using hg 0 f0 rfl, by simpa [Value.cells, o1, k1] using hg 1 f1 rfl, by simpa [Value.cells, o2, k2] using hg 2 f2 rfl, by simpa [Value.cells, o3, k3] using hg 3 f3 rfl, by simpa [Value.cells, o4, k4] using hg 4 f4 rfl, by simpa [Value.cells, o5, k5] using hg 5 f5 rfl, by simpa [Value.cells, o6, k6] using hg 6 f6 rfl, by simpa [Value.cells, o7, k7] using hg 7 f7 rfl⟩
end
set_option maxRecDepth 100000 in
theorem open_config {H : Type} {enc : TypeId × Value → H} {w : World} {base b0 : Nat} {spare : Nat → Bool} {held : Bool} {r : Reach} {v : Value} {d : DataW H} {p : List MemPlace}
    (hv : Value.okWide Tryz.prog w r b0 23 v) (h : DataW.Trod enc Tryz.prog w base spare held 23 v d p) : ∃ c : Cf, v = .agg (cfA c) := by
  obtain ⟨v0, v1, v2, v3, v4, v5, v6, v7, y0, y1, y2, y3, y4, y5, y6, y7, n, rfl, t0, t1, t2, t3, t4, t5, t6, t7⟩ := open_agg8 Tryz.underlying23 (by kernel_rfl) (by kernel_rfl) hv h
  obtain ⟨a0, e0, _, _⟩ := DataW.trod_int Tryz.underlying3 t0
  obtain ⟨a1, e1, _, _⟩ := DataW.trod_int Tryz.underlying3 t1
  obtain ⟨a2, e2, _, _⟩ := DataW.trod_int Tryz.underlying3 t2
  obtain ⟨a3, e3, _, _⟩ := DataW.trod_int Tryz.underlying3 t3
  obtain ⟨a4, e4, _, _⟩ := DataW.trod_int Tryz.underlying3 t4
  obtain ⟨a5, e5, _, _⟩ := DataW.trod_int Tryz.underlying3 t5
  obtain ⟨a6, e6, _, _⟩ := DataW.trod_int Tryz.underlying3 t6
  obtain ⟨a7, e7, _, _⟩ := DataW.trod_int Tryz.underlying3 t7
  simp at e0 e1 e2 e3 e4 e5 e6 e7
  subst e0 e1 e2 e3 e4 e5 e6 e7
  exact ⟨⟨a0, a1, a2, a3, a4, a5, a6, a7⟩, rfl⟩
theorem at_of {l : List Value} {a n b : Nat} {v : Value} (h : (((l.drop a).take n).drop b).take 1 = [v]) : l[a + b]? = some v := by
  have h0 := congrArg (·[0]?) h
  simp only [List.getElem?_take, List.getElem?_drop] at h0
  by_cases hb : b < n
  · simpa [hb] using h0
  · simp [hb] at h0
section
variable {W : World} {fuel : Nat} {t : TypeId} {cs : List Value} {x : DataW Unit × List MemPlace} {spare : Nat → Bool} {held : Bool} {base : Nat}

theorem lit_int {k : IntKind} {z : Int} (ht : Tryz.prog.underlying t = some (.int k)) (h : DataW.trod (fun _ => ()) Tryz.prog W base spare held fuel t cs = some x) (hx : x.1 = .lit (.int k z)) : cs = [.int k z] := by
  obtain ⟨n, rfl, e, _⟩ := DataW.trod_int ht h
  rw [e] at hx
  simp at hx
  rw [hx]
theorem lit_bool {b : Bool} (ht : Tryz.prog.underlying t = some .bool) (h : DataW.trod (fun _ => ()) Tryz.prog W base spare held fuel t cs = some x) (hx : x.1 = .lit (.bool b)) : cs = [.bool b] := by
  obtain ⟨n, rfl, e⟩ := DataW.trod_bool ht h
  rw [e] at hx
  simp at hx
  rw [hx]
end
def parD : DataW Unit := .agg [.agg [.lit (.int .u64 2), .lit (.int .u64 4294967294)], .agg [.lit (.int .u64 1), .lit (.int .u64 4294967295)]]
set_option maxRecDepth 100000 in
theorem par_of {W : World} {l : List (String × DataW Unit)} (h : laidMet Tryz.prog l W) (hm : ("culvert/ids.parities", parD) ∈ l) : Par W := by
  obtain ⟨cs, fuel, p, hv, hd⟩ := laid_at h hm (g := 4) (t := 107) (by kernel_rfl) (by kernel_rfl)
  obtain ⟨xs, m1, hx0, hx1, hlen, hn, hel⟩ := DataW.trod_array Tryz.underlying107 hd
  have hE : Tryz.prog.cellsOf 106 = 2 := by kernel_rfl
  have hU : Tryz.prog.cellsOf 104 = 1 := by kernel_rfl
  have hc := World.var?_cell (show Tryz.prog.globalNamed "culvert/ids.parities" = some 4 by kernel_rfl) hv
  match xs, hn with
  | [y0, y1], _ =>
    have hL := DataW.agg.inj (show parD = .agg [y0.1, y1.1] from congrArg (·.1) hx1)
    simp only [List.cons.injEq, and_true] at hL
    have i0 := hel 0 (by omega)
    have i1 := hel 1 (by omega)
    rw [hE] at i0 i1
    obtain ⟨z0, z1, n0, e0, _, a0, a1⟩ := trod_struct2 Tryz.underlying106 i0
    obtain ⟨z2, z3, n1, e1, _, a2, a3⟩ := trod_struct2 Tryz.underlying106 i1
    have h0 := DataW.agg.inj (hL.1.trans (congrArg (·.1) e0))
    have h1 := DataW.agg.inj (hL.2.trans (congrArg (·.1) e1))
    simp only [List.cons.injEq, and_true] at h0 h1
    rw [hU] at a0 a1 a2 a3
    have b0 := at_of (lit_int Tryz.underlying104 a0 h0.1.symm)
    have b1 := at_of (lit_int Tryz.underlying104 a1 h0.2.symm)
    have b2 := at_of (lit_int Tryz.underlying104 a2 h1.1.symm)
    have b3 := at_of (lit_int Tryz.underlying104 a3 h1.2.symm)
    refine ⟨(hc 0).trans ?_, (hc 1).trans ?_, (hc 2).trans ?_, (hc 3).trans ?_⟩
    · simpa using b0
    · simpa using b1
    · simpa using b2
    · simpa using b3

def frmRow (a b : Int) (c : Bool) (d e : Int) : DataW Unit := .agg [.lit (.int .i64 a), .lit (.int .i64 b), .lit (.bool c), .lit (.int .u8 d), .lit (.int .u16 e)]
def frmD : DataW Unit := .agg [frmRow 0 0 false 0 0, frmRow 1 0 true 1 1, frmRow 1 0 true 1 2, frmRow 1 1 false 1 0, frmRow 1 0 true 1 8, frmRow 0 2 false 2 1, frmRow 0 2 false 2 2, frmRow 0 3 true 3 0]
set_option maxRecDepth 100000 in
theorem frm_of {W : World} {l : List (String × DataW Unit)} (h : laidMet Tryz.prog l W) (hm : ("culvert/lane.forms", frmD) ∈ l) : Frm W := by
  obtain ⟨cs, fuel, p, hv, hd⟩ := laid_at h hm (g := 43) (t := 207) (by kernel_rfl) (by kernel_rfl)
  obtain ⟨xs, m1, hx0, hx1, hlen, hn, hel⟩ := DataW.trod_array Tryz.underlying207 hd
  have hE : Tryz.prog.cellsOf 206 = 5 := by kernel_rfl
  have hc := World.var?_cell (show Tryz.prog.globalNamed "culvert/lane.forms" = some 43 by kernel_rfl) hv
  match xs, hn with
  | [y0, y1, y2, y3, y4, y5, y6, y7], _ =>
    have hL := DataW.agg.inj (show frmD = .agg [y0.1, y1.1, y2.1, y3.1, y4.1, y5.1, y6.1, y7.1] from congrArg (·.1) hx1)
    simp only [List.cons.injEq, and_true] at hL
    have i1 := hel 1 (by omega)
    rw [hE] at i1
    obtain ⟨zs, n1, _, e1, _, hz, hg⟩ := DataW.trod_struct Tryz.underlying206 i1
    match zs, hz with
    | [z0, z1, z2, z3, z4], _ =>
      have h1 := DataW.agg.inj (show frmRow 1 0 true 1 1 = .agg [z0.1, z1.1, z2.1, z3.1, z4.1] from hL.2.1.trans (congrArg (·.1) e1))
      simp only [List.cons.injEq, and_true] at h1
      have a0 := hg 0 _ rfl
      have a1 := hg 1 _ rfl
      have a2 := hg 2 _ rfl
      have a3 := hg 3 _ rfl
      have a4 := hg 4 _ rfl
      have hI : Tryz.prog.cellsOf 3 = 1 := by kernel_rfl
      have hB : Tryz.prog.cellsOf 4 = 1 := by kernel_rfl
      have h8 : Tryz.prog.cellsOf 5 = 1 := by kernel_rfl
      have h16 : Tryz.prog.cellsOf 85 = 1 := by kernel_rfl
      have b0 := at_of (lit_int Tryz.underlying3 ((congrArg (fun n => DataW.trod _ _ _ _ _ _ n1 3 (List.take n (List.drop 0 (List.take 5 (List.drop (1 * 5) cs.toList))))) hI).symm.trans a0) h1.1.symm)
      have b1 := at_of (lit_int Tryz.underlying3 ((congrArg (fun n => DataW.trod _ _ _ _ _ _ n1 3 (List.take n (List.drop 1 (List.take 5 (List.drop (1 * 5) cs.toList))))) hI).symm.trans a1) h1.2.1.symm)
      have b2 := at_of (lit_bool Tryz.underlying4 ((congrArg (fun n => DataW.trod _ _ _ _ _ _ n1 4 (List.take n (List.drop 2 (List.take 5 (List.drop (1 * 5) cs.toList))))) hB).symm.trans a2) h1.2.2.1.symm)
      have b3 := at_of (lit_int Tryz.underlying5 ((congrArg (fun n => DataW.trod _ _ _ _ _ _ n1 5 (List.take n (List.drop 3 (List.take 5 (List.drop (1 * 5) cs.toList))))) h8).symm.trans a3) h1.2.2.2.1.symm)
      have b4 := at_of (lit_int Tryz.underlying85 ((congrArg (fun n => DataW.trod _ _ _ _ _ _ n1 85 (List.take n (List.drop 4 (List.take 5 (List.drop (1 * 5) cs.toList))))) h16).symm.trans a4) h1.2.2.2.2.symm)
      refine ⟨(hc 5).trans ?_, (hc 6).trans ?_, (hc 7).trans ?_, (hc 8).trans ?_, (hc 9).trans ?_⟩
      · simpa using b0
      · simpa using b1
      · simpa using b2
      · simpa using b3
      · simpa using b4
def sttRow (l : List Int) : DataW Unit := .agg (l.map fun z => .lit (.int .i64 z))
def sttD : DataW Unit := .agg [sttRow [1, 2, -1, -1, -1, -1, -1], sttRow [-1, -1, -1, 3, 4, 5, 7], sttRow [-1, -1, 3, -1, 4, 5, 7], sttRow [-1, -1, -1, -1, 4, 5, 7], sttRow [-1, -1, 4, 4, -1, 6, 7], sttRow [-1, -1, 5, 5, 6, -1, 7], sttRow [-1, -1, 6, 6, -1, -1, 7], sttRow [-1, -1, -1, -1, -1, -1, 7]]
set_option maxRecDepth 100000 in
theorem stt_of {W : World} {l : List (String × DataW Unit)} (h : laidMet Tryz.prog l W) (hm : ("culvert/states.table", sttD) ∈ l) : Stt W := by
  obtain ⟨cs, fuel, p, hv, hd⟩ := laid_at h hm (g := 45) (t := 250) (by kernel_rfl) (by kernel_rfl)
  obtain ⟨xs, m1, hx0, hx1, hlen, hn, hel⟩ := DataW.trod_array Tryz.underlying250 hd
  have hE : Tryz.prog.cellsOf 249 = 7 := by kernel_rfl
  have hI : Tryz.prog.cellsOf 3 = 1 := by kernel_rfl
  have hc := World.var?_cell (show Tryz.prog.globalNamed "culvert/states.table" = some 45 by kernel_rfl) hv
  match xs, hn with
  | [y0, y1, y2, y3, y4, y5, y6, y7], _ =>
    have hL := DataW.agg.inj (show sttD = .agg [y0.1, y1.1, y2.1, y3.1, y4.1, y5.1, y6.1, y7.1] from congrArg (·.1) hx1)
    simp only [List.cons.injEq, and_true] at hL
    have i0 := hel 0 (by omega)
    rw [hE] at i0
    obtain ⟨zs, m2, _, e1, _, hz, hg⟩ := DataW.trod_array Tryz.underlying249 i0
    match zs, hz with
    | [z0, z1, z2, z3, z4, z5, z6], _ =>
      have h1 := DataW.agg.inj (show sttRow [1, 2, -1, -1, -1, -1, -1] = .agg [z0.1, z1.1, z2.1, z3.1, z4.1, z5.1, z6.1] from hL.1.trans (congrArg (·.1) e1))
      simp only [List.map_cons, List.map_nil, List.cons.injEq, and_true] at h1
      have a0 := hg 0 (by omega)
      rw [hI] at a0
      have b0 := at_of (lit_int Tryz.underlying3 a0 h1.1.symm)
      refine (hc 0).trans ?_
      simpa using b0
end Go.Proofs.YtnpmafnhbbaokaaGreatDoor
