/-
  Layer 18: idle, empty, New.
-/
import Derived.Test.YtnpmafnhbbaokaaGreatDoorSLeaf
import Derived.Test.YtnpmafnhbbaokaaGreatDoorNum
namespace Go.Proofs.YtnpmafnhbbaokaaGreatDoor
open Go Go.RowKit
set_option linter.unusedVariables false
set_option linter.unusedSimpArgs false
/-- A configuration. -/
structure Cf where
  win : Int
  stg : Int
  frm : Int
  str : Int
  bkl : Int
  pgs : Int
  out : Int
  skp : Int
theorem opq {f : FuncId} {xs : Array Value} {w : World} {e0 : Ending} {w0 : World} (h : Calls Tryz.prog f xs w fun e w' => e = e0 ∧ w' = w0) {Q : World → Prop} (hq : Q w0) : Calls Tryz.prog f xs w fun e w' => e = e0 ∧ Q w' :=
  h.mono fun e w' ⟨h1, h2⟩ => ⟨h1, h2 ▸ hq⟩
def cfA (c : Cf) : Array Value := #[.int .i64 c.win, .int .i64 c.stg, .int .i64 c.frm, .int .i64 c.str, .int .i64 c.bkl, .int .i64 c.pgs, .int .i64 c.out, .int .i64 c.skp]
/-- It may be. -/
structure CfOk (c : Cf) : Prop where
  w1 : 1 ≤ c.win
  w2 : c.win ≤ 2147483647
  s1 : 1 ≤ c.stg
  s2 : c.stg ≤ 1048576
  f1 : 1 ≤ c.frm
  f2 : c.frm ≤ 65536
  t1 : 1 ≤ c.str
  t2 : c.str ≤ 4096
  b1 : 1 ≤ c.bkl
  b2 : c.bkl ≤ 1024
  p1 : 1 ≤ c.pgs
  p2 : c.pgs ≤ 1024
  o1 : 1 ≤ c.out
  o2 : c.out ≤ 1048576
  k1 : 0 ≤ c.skp
  k2 : c.skp ≤ 2147483647
/-- A session's cells. -/
def sx (c : Cf) (ids tab wai ord sch rst png uns fed out : Value) (h t : Bool) (e : Value) : Array Value :=
  #[.int .i64 c.win, .int .i64 c.stg, .int .i64 c.frm, .int .i64 c.str, .int .i64 c.bkl, .int .i64 c.pgs, .int .i64 c.out, .int .i64 c.skp, ids, tab, wai, ord, sch, rst, png, uns, fed, out, .bool h, .bool t, e]
set_option maxRecDepth 100000 in
set_option maxHeartbeats 1000000 in
theorem idle_any {w : World} {g : Nat} {c : Cf} (hc : CfOk c) {i t w0 o0 s0 r0 p0 u0 f0 o e : Value} {hh th : Bool} (hg : w.heap[g]? = some (.cells (sx c i t w0 o0 s0 r0 p0 u0 f0 o hh th e) 57 (0, 0))) :
    Calls Tryz.prog 44 #[pt g] w fun e' w' => e' = .returned (.tuple #[]) ∧ Ch [g] w w' ∧ w'.heap.size = w.heap.size + 14 ∧
      w'.heap[g]? = some (.cells (sx c i t (.map (some w.heap.size)) (pt (w.heap.size + 2)) (pt (w.heap.size + 7)) (.map (some (w.heap.size + 8))) (pt (w.heap.size + 11)) (.map (some (w.heap.size + 12))) (pt (w.heap.size + 13)) o hh th e) 57 (0, 0)) ∧
      w'.heap[w.heap.size + 3]? = some (.map #[] 0) ∧ w'.heap[w.heap.size + 4]? = some (.cells (lane0 (w.heap.size + 3)) 204 (0, 0)) ∧ w'.heap[w.heap.size + 5]? = some (.map #[] 0) ∧
      w'.heap[w.heap.size + 6]? = some (.cells #[.slice none 0 0, .map (some (w.heap.size + 5))] 223 (0, 0)) ∧ w'.heap[w.heap.size + 7]? = some (.cells #[pt (w.heap.size + 4), pt (w.heap.size + 6)] 142 (0, 0)) ∧ w'.heap[w.heap.size + 8]? = some (.map #[] 0) := by
  have hmm := @run_makeMap Tryz.prog
  obtain ⟨_, _, _, _, q1, q2, _, _, b1, b2, p1, p2, _, _, _, _⟩ := hc
  have hlt : g < w.heap.size := blk_lt hg
  have c2 : w.cell? ⟨g, 2, none⟩ = some (.int .i64 c.frm) := cell_blk hg rfl
  have c4 : w.cell? ⟨g, 4, none⟩ = some (.int .i64 c.bkl) := cell_blk hg rfl
  have c5 : w.cell? ⟨g, 5, none⟩ = some (.int .i64 c.pgs) := cell_blk hg rfl
  have c10 : w.cell? ⟨g, 10, none⟩ = some w0 := cell_blk hg rfl
  have c11 : w.cell? ⟨g, 11, none⟩ = some o0 := cell_blk hg rfl
  have c12 : w.cell? ⟨g, 12, none⟩ = some s0 := cell_blk hg rfl
  have c13 : w.cell? ⟨g, 13, none⟩ = some r0 := cell_blk hg rfl
  have c14 : w.cell? ⟨g, 14, none⟩ = some p0 := cell_blk hg rfl
  have c15 : w.cell? ⟨g, 15, none⟩ = some u0 := cell_blk hg rfl
  have c16 : w.cell? ⟨g, 16, none⟩ = some f0 := cell_blk hg rfl
  have hf : ∀ j, w.frozen? ⟨g, j, none⟩ = false := fun j => free_blk hg
  have HG := Lib.hid hg
  clear hg
  have l1 : g < w.heap.size + 1 := by omega
  have l2 : g < w.heap.size + 1 + 1 := by omega
  have l3 : g < w.heap.size + 1 + 1 + 1 := by omega
  have l4 : g < w.heap.size + 1 + 1 + 1 + 1 := by omega
  have l5 : g < w.heap.size + 1 + 1 + 1 + 1 + 1 := by omega
  have l6 : g < w.heap.size + 1 + 1 + 1 + 1 + 1 + 1 := by omega
  have l7 : g < w.heap.size + 1 + 1 + 1 + 1 + 1 + 1 + 1 := by omega
  have l8 : g < w.heap.size + 1 + 1 + 1 + 1 + 1 + 1 + 1 + 1 := by omega
  have l9 : g < w.heap.size + 1 + 1 + 1 + 1 + 1 + 1 + 1 + 1 + 1 := by omega
  have l10 : g < w.heap.size + 1 + 1 + 1 + 1 + 1 + 1 + 1 + 1 + 1 + 1 := by omega
  have l11 : g < w.heap.size + 1 + 1 + 1 + 1 + 1 + 1 + 1 + 1 + 1 + 1 + 1 := by omega
  have l12 : g < w.heap.size + 1 + 1 + 1 + 1 + 1 + 1 + 1 + 1 + 1 + 1 + 1 + 1 := by omega
  have l13 : g < w.heap.size + 1 + 1 + 1 + 1 + 1 + 1 + 1 + 1 + 1 + 1 + 1 + 1 + 1 := by omega
  have l14 : g < w.heap.size + 1 + 1 + 1 + 1 + 1 + 1 + 1 + 1 + 1 + 1 + 1 + 1 + 1 + 1 := by omega
  go_enter Tryz.func44, Tryz.ntmps44
  unfold pt
  go_wp2_with fail
  refine (backlog_new _ b1 b2).mono ?_
  rintro e1 w1 ⟨rfl, rfl⟩
  unfold pt
  go_wp2_with fail
  refine sched_new.mono ?_
  rintro e1 w1 ⟨rfl, rfl⟩
  unfold pt schedW
  go_wp2_with fail
  refine (pings_new _ p1 p2).mono ?_
  rintro e1 w1 ⟨rfl, rfl⟩
  unfold pt
  go_wp2_with fail
  refine (feedD_new _ q1 q2).mono ?_
  rintro e1 w1 ⟨rfl, rfl⟩
  unfold pt
  go_wp2_with fail
  go_end0
  refine ⟨rfl, ?_, by simp, ?_, ?_, ?_, ?_, ?_, ?_, ?_⟩
  · repeat (first | with_reducible exact Ch.refl _ _ | with_reducible refine Ch.alloc ?_ _ | with_reducible refine Ch.set ?_ (.inl (by simp)) _)
  · repeat (with_reducible refine alloc_old _ ?_)
    exact set_is (set_blk _ (set_blk _ (set_blk _ (set_blk _ (set_blk _ (set_blk _ HG.out)))))) rfl
  all_goals
    (repeat (first | (with_reducible refine Eq.trans (alloc_is _ ?h) ?_; (case h => (simp; done))) | with_reducible refine alloc_old _ ?_))
    first | rfl | simp [pt, lane0]
end Go.Proofs.YtnpmafnhbbaokaaGreatDoor
