/-
  lane.Next of an empty list; what a session holds behind robin's and data's changes.
-/
import Derived.Test.YtnpmafnhbbaokaaGreatDoorSRob
namespace Go.Proofs.YtnpmafnhbbaokaaGreatDoor
open Go Go.RowKit
open Go.ChangeMaps (setBlock)
set_option linter.unusedVariables false
set_option linter.unusedSimpArgs false
def tk0 : Value := .agg #[.int .i64 0, .int .u32 0, .int .u32 0]
theorem lnext_0 {w : World} {gl m c : Nat} {A : Option Addr} (hl : w.heap[gl]? = some (.cells (laneC (.slice A 0 c) m 0) 204 (0, 0))) :
    Calls Tryz.prog 66 #[pt gl] w fun e w' => e = .returned (.tuple #[tk0, .bool false]) ∧ Below w.heap.size w w' := by
  have c0 : w.cell? ⟨gl, 0, none⟩ = some (.slice A 0 c) := cell_blk hl rfl
  have zl : gl < w.heap.size := blk_lt hl
  clear hl
  go_enter Tryz.func66, Tryz.ntmps66
  unfold pt
  go_wp2_with fail
  refine wp_loop_rounds 1 ?_
  rw [rounds_succ]
  go_wp2_with fail
  refine bodyPost_ret (v := .tuple #[tk0, .bool false]) ?_ rfl ⟨rfl, (Below.refl _ _).alloc (Nat.le_refl _) _⟩
  simp [results, Tryz.results66, go_sem, tk0]
theorem ne3 {b a r d : Nat} (h1 : b ≠ a) (h2 : b ≠ r) (h3 : b ≠ d) : b ∉ [a, r, d] := by simp; omega
theorem SG.robin {w w1 : World} {n s : Nat} {c : Cf} {mk : Int} {lane : Array Value} {es : Array MapEntry} {cl : Nat} {robin robin' : Array Value} {rbm rbm' : Obj} {og : Int} {ouf : Array Value} {hv sp : Int} {ring : Array Value} {r : Nat} {cur : Array Value} (h : SG w n s c mk lane (.map es cl) robin rbm og ouf hv sp ring)
    (hr : w.heap[r]? = some (.cells cur 35 (0, 0))) (hc : Ch [n + 13, r, n + 12] w w1) (h13 : w1.heap[n + 13]? = some (.cells robin' 223 (0, 0))) (h12 : w1.heap[n + 12]? = some rbm') : SG w1 n s c mk lane (.map es cl) robin' rbm' og ouf hv sp ring := by
  have hs := h.s0
  exact ⟨hc.at_ h.ouf (ne3 (by omega) (type_ne h.ouf hr (by decide)) (by omega)), hc.at_ h.out (ne3 (by omega) (type_ne h.out hr (by decide)) (by omega)), hc.at_ h.box (ne3 (by omega) (type_ne h.box hr (by decide)) (by omega)), hc.at_ h.ids (ne3 (by omega) (type_ne h.ids hr (by decide)) (by omega)),
    hc.at_ h.tmp (ne3 (by omega) (Ne.symm (map_ne hr h.tmp)) (by omega)), hc.at_ h.tab (ne3 (by omega) (type_ne h.tab hr (by decide)) (by omega)), hc.at_ h.lnm (ne3 (by omega) (Ne.symm (map_ne hr h.lnm)) (by omega)), hc.at_ h.ln (ne3 (by omega) (type_ne h.ln hr (by decide)) (by omega)), h12, h13,
    hc.at_ h.sch (ne3 (by omega) (type_ne h.sch hr (by decide)) (by omega)), hc.at_ h.rst (ne3 (by omega) (Ne.symm (map_ne hr h.rst)) (by omega)), hc.at_ h.str (ne3 (by omega) (type_ne h.str hr (by decide)) (by omega)), hc.at_ h.snd (ne3 (by omega) (type_ne h.snd hr (by decide)) (by omega)), hc.at_ h.stg (ne3 (by omega) (type_ne h.stg hr (by decide)) (by omega)), h.s0⟩
theorem SG.data {w w1 : World} {n s : Nat} {c : Cf} {mk : Int} {lane : Array Value} {lnm : Obj} {robin : Array Value} {rbm : Obj} {og : Int} {ouf : Array Value} {hv sp hv' sp' : Int} {ring ring' : Array Value} (h : SG w n s c mk lane lnm robin rbm og ouf hv sp ring)
    (hc : Ch [s + 1, s - 2] w w1) (hq : w1.heap[s + 1]? = some (.cells ring' 188 (0, 0))) (hd : w1.heap[s - 2]? = some (.cells #[.int .u32 c.win, .int .u32 hv', .int .u64 sp'] 190 (0, 0))) : SG w1 n s c mk lane lnm robin rbm og ouf hv' sp' ring' := by
  have hs := h.s0
  exact ⟨hc.at_ h.ouf (by simp; omega), hc.at_ h.out (by simp; omega), hc.at_ h.box (by simp; omega), hc.at_ h.ids (by simp; omega), hc.at_ h.tmp (by simp; omega), hc.at_ h.tab (by simp; omega), hc.at_ h.lnm (by simp; omega), hc.at_ h.ln (by simp; omega), hc.at_ h.rbm (by simp; omega), hc.at_ h.rb (by simp; omega), hc.at_ h.sch (by simp; omega), hc.at_ h.rst (by simp; omega), hc.at_ h.str (by simp; omega), hd, hq, h.s0⟩
theorem One.step {w w1 : World} {E : TypeId} {r o cap : Nat} {x : Value} {L : List Nat} (h : One w E r o cap x) (hc : Ch L w w1) (hn : r ∉ L) : One w1 E r o cap x := by
  obtain ⟨cur, h1, h2⟩ := h
  exact ⟨cur, hc.at_ h1 hn, h2⟩
end Go.Proofs.YtnpmafnhbbaokaaGreatDoor
