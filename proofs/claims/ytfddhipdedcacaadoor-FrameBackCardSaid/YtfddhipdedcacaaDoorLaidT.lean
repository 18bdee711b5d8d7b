/-
  What a row's list of package-level variables gives of frame.words and of strconv's table of powers of ten.
-/
import Derived.Test.YtfddhipdedcacaaDoorText
import Derived.Test.YtfddhipdedcacaaDoorOfLaid
import Derived.Lib.LaidTab
namespace Go.Proofs.YtfddhipdedcacaaDoor
open Go.RowKit Go.ChangeShapes
theorem pow10_of {W : World} {l : List (String × DataW Unit)} (h : laidMet Tryd.prog l W) (hm : ("internal/strconv.uint64pow10", Lib.tabData .u64 Lib.pow10Tab) ∈ l) : Pow10 W :=
  Lib.tabIs_of_head (g := 45) (t := 166) (e := 111) (n := 20) (by kernel_rfl) (by kernel_rfl) Tryd.underlying166 Tryd.underlying111 (by kernel_rfl) (by kernel_rfl) (laidMet_sub (List.singleton_sublist.2 hm) h)
def wordsD : DataW Unit := .agg [.lit (.string [100, 97, 116, 97]), .lit (.string [119, 105, 110, 100, 111, 119]), .lit (.string [112, 105, 110, 103]), .lit (.string [97, 119, 97, 121])]
set_option maxRecDepth 100000 in
theorem words_of {W : World} {l : List (String × DataW Unit)} (h : laidMet Tryd.prog l W) (hm : ("culvert/frame.words", wordsD) ∈ l) : Words W := by
  obtain ⟨cs, fuel, p, hv, hd⟩ := laid_at h hm (g := 9) (t := 114) (by kernel_rfl) (by kernel_rfl)
  obtain ⟨xs, m1, hx0, hx1, hlen, hn3, hel⟩ := DataW.trod_array Tryd.underlying114 hd
  have c9 : Tryd.prog.cellsOf 9 = 1 := by kernel_rfl
  have c4 : Tryd.prog.cellsOf 114 = 4 := by kernel_rfl
  rw [c4] at hlen
  have hL : wordsD = .agg (xs.map (·.1)) := congrArg (·.1) hx1
  have hD : ∀ i, i < 4 → (xs.map (·.1))[i]? = some (.lit (.string (tyW i).data.toList)) := fun i hi => by
    rw [← DataW.agg.inj hL]
    match i, hi with
    | 0, _ => rfl
    | 1, _ => rfl
    | 2, _ => rfl
    | 3, _ => rfl
  intro i hi
  have hi1 := hel i hi
  rw [c9, Nat.mul_one] at hi1
  have hxi : xs[i]? = some (xs[i]'(by omega)) := List.getElem?_eq_getElem (by omega)
  have hci : cs.toList[i]? = some (cs.toList[i]'(by omega)) := List.getElem?_eq_getElem (by omega)
  have htk : List.take 1 (List.drop i cs.toList) = [cs.toList[i]'(by omega)] := by
    rw [List.drop_eq_getElem_cons (by omega)]; rfl
  rw [htk, hxi] at hi1
  have hdi := hD i hi
  rw [List.getElem?_map, hxi] at hdi
  obtain ⟨s, hs, he, _⟩ := DataW.trod_string Tryd.underlying9 hi1
  have hs' := (List.cons.inj hs).1
  have e1 : (DataW.lit (.string s.data.toList) : DataW Unit) = .lit (.string (tyW i).data.toList) := by
    have := congrArg (·.1) he
    simp only [Option.map_some, Option.some.injEq] at hdi
    exact this.symm.trans hdi
  have e2 : s.data.toList = (tyW i).data.toList := by injection e1 with e1; injection e1
  have e3 : s = tyW i := by
    cases s; cases h : tyW i
    rw [h] at e2
    congr 1
    exact Array.ext' e2
  have := World.var?_cell (show Tryd.prog.globalNamed "culvert/frame.words" = some 9 by kernel_rfl) hv i
  rw [this]
  have h6 : cs[i]? = cs.toList[i]? := by simp
  rw [h6, hci, hs', e3]
end Go.Proofs.YtfddhipdedcacaaDoor
