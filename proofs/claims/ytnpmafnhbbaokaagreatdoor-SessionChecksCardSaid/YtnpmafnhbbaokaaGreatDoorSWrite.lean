/-
  session.Write of the document's five bytes: the session's own walk.
-/
import Derived.Test.YtnpmafnhbbaokaaGreatDoorSWr
namespace Go.Proofs.YtnpmafnhbbaokaaGreatDoor
open Go Go.RowKit
open Go.ChangeMaps (setBlock)
set_option linter.unusedVariables false
set_option linter.unusedSimpArgs false
/-- A session's cells, its blocks from n on, nothing wrong. -/
def sxn (c : Cf) (n : Nat) : Array Value := sx c (pt (n + 4)) (pt (n + 6)) (.map (some (n + 7))) (pt (n + 9)) (pt (n + 14)) (.map (some (n + 15))) (pt (n + 18)) (.map (some (n + 19))) (pt (n + 20)) (pt (n + 1)) false false .nilIface
/-- What a session holds that has one open stream, the first. -/
structure SG (w : World) (n s : Nat) (c : Cf) (mk : Int) (lane : Array Value) (lnm : Obj) (robin : Array Value) (rbm : Obj) (og : Int) (ouf : Array Value) (hv sp : Int) (ring : Array Value) : Prop where
  ouf : w.heap[n]? = some (.cells ouf 168 (0, 0))
  out : w.heap[n + 1]? = some (.cells #[pt n, .int .i64 og] 103 (0, 0))
  box : w.heap[n + 2]? = some (.cells (sxn c n) 57 (0, 0))
  ids : w.heap[n + 4]? = some (.cells #[.int .u64 1, .int .u64 4294967295, .int .u64 1, .int .u64 3, .int .u32 mk, .int .u32 0] 109 (0, 0))
  tmp : w.heap[n + 5]? = some (.map #[⟨.int .u32 1, pt s, 0⟩] 1)
  tab : w.heap[n + 6]? = some (.cells #[.int .i64 (2 * c.str), .map (some (n + 5))] 120 (0, 0))
  lnm : w.heap[n + 10]? = some lnm
  ln : w.heap[n + 11]? = some (.cells lane 204 (0, 0))
  rbm : w.heap[n + 12]? = some rbm
  rb : w.heap[n + 13]? = some (.cells robin 223 (0, 0))
  sch : w.heap[n + 14]? = some (.cells #[pt (n + 11), pt (n + 13)] 142 (0, 0))
  rst : w.heap[n + 15]? = some (.map #[] 0)
  str : w.heap[s]? = some (.cells (st1 c s) 126 (0, 0))
  snd : w.heap[s - 2]? = some (.cells #[.int .u32 c.win, .int .u32 hv, .int .u64 sp] 190 (0, 0))
  stg : w.heap[s + 1]? = some (.cells ring 188 (0, 0))
  s0 : n + 23 ≤ s
theorem SG.step {w w1 : World} {n s : Nat} {c : Cf} {mk : Int} {lane : Array Value} {lnm : Obj} {robin : Array Value} {rbm : Obj} {og : Int} {ouf : Array Value} {hv sp : Int} {ring : Array Value} (h : SG w n s c mk lane lnm robin rbm og ouf hv sp ring) (hc : Ch [] w w1) : SG w1 n s c mk lane lnm robin rbm og ouf hv sp ring :=
  ⟨hc.at_ h.ouf (by simp), hc.at_ h.out (by simp), hc.at_ h.box (by simp), hc.at_ h.ids (by simp), hc.at_ h.tmp (by simp), hc.at_ h.tab (by simp), hc.at_ h.lnm (by simp), hc.at_ h.ln (by simp), hc.at_ h.rbm (by simp), hc.at_ h.rb (by simp), hc.at_ h.sch (by simp), hc.at_ h.rst (by simp), hc.at_ h.str (by simp), hc.at_ h.snd (by simp), hc.at_ h.stg (by simp), h.s0⟩
theorem find_1 {w : World} {n s : Nat} {c : Cf} {mk : Int} {lane : Array Value} {lnm : Obj} {robin : Array Value} {rbm : Obj} {og : Int} {ouf : Array Value} {hv sp : Int} {ring : Array Value} (h : SG w n s c mk lane lnm robin rbm og ouf hv sp ring) :
    Calls Tryz.prog 30 #[pt (n + 2), .int .u32 1] w fun e w' => e = .returned (.tuple #[pt s, .nilIface]) ∧ Ch [] w w' := by
  have c9 : w.cell? ⟨n + 2, 9, none⟩ = some (pt (n + 6)) := cell_blk h.box rfl
  have c20 : w.cell? ⟨n + 2, 20, none⟩ = some .nilIface := cell_blk h.box rfl
  have HG := Lib.hid (fun k => tget_1 (w := w.drewN k) h.tab h.tmp)
  clear h
  unfold pt at c9
  go_enter Tryz.func30, Tryz.ntmps30
  unfold pt
  go_wp2_with fail
  go_quiet (fail)
  go_wp2_with fail
  refine (HG.out nq).mono ?_
  rintro e w1 ⟨rfl, rfl⟩
  unfold pt
  go_wp2_with fail
  go_ret2
  exact ⟨rfl, (Ch.refl _ _).drewN _⟩
theorem sready_1 {w : World} {gs gl gr m cl : Nat} (hs : w.heap[gs]? = some (.cells #[pt gl, pt gr] 142 (0, 0))) (hr : w.heap[gr]? = some (.cells #[.slice none 0 0, .map (some m)] 223 (0, 0))) (hm : w.heap[m]? = some (.map #[] cl)) (hne : gr ≠ m) :
    Calls Tryz.prog 63 #[pt gs, .int .u32 1] w fun e w' => e = .returned (.bool true) ∧ Ch [gr, m] w w' ∧ ∃ r cap cur, w.heap.size ≤ r ∧ 1 ≤ cap ∧ cap ≤ maxLen ∧ cur.size = cap ∧ w'.heap[r]? = some (.cells cur 35 (0, 0)) ∧ cur[0]? = some (.int .u32 1) ∧
      w'.heap[gr]? = some (.cells #[.slice (some ⟨r, 0, none⟩) 1 cap, .map (some m)] 223 (0, 0)) ∧ w'.heap[m]? = some (.map #[⟨.int .u32 1, .int .i64 1, cl⟩] (cl + 1)) := by
  have c1 : w.cell? ⟨gs, 1, none⟩ = some (pt gr) := cell_blk hs rfl
  have HA := Lib.hid (add_1 hr hm hne)
  clear hs hr hm
  unfold pt at c1
  go_enter Tryz.func63, Tryz.ntmps63
  unfold pt
  go_wp2_with fail
  refine HA.out.mono ?_
  rintro e w1 ⟨rfl, hk⟩
  have K := Lib.hid hk
  clear hk
  go_wp2_with fail
  go_ret
  exact ⟨rfl, K.out⟩
set_option maxHeartbeats 1000000 in
theorem turn_1 {w : World} {n s cl : Nat} {c : Cf} {mk : Int} {lane : Array Value} {lnm : Obj} {og : Int} {ouf : Array Value} {hv sp k m : Int} {v h : Value} (hg : SG w n s c mk lane lnm #[.slice none 0 0, .map (some (n + 12))] (.map #[] cl) og ouf hv sp #[.int .i64 k, v, h, .int .i64 m]) (h1 : 1 ≤ m) (h2 : 0 < hv) :
    Calls Tryz.prog 33 #[pt (n + 2), .int .u32 1, pt s] w fun e w' => e = .returned (.tuple #[]) ∧ Ch [n + 13, n + 12] w w' ∧ ∃ r cap cur, w.heap.size ≤ r ∧ 1 ≤ cap ∧ cap ≤ maxLen ∧ cur.size = cap ∧ w'.heap[r]? = some (.cells cur 35 (0, 0)) ∧ cur[0]? = some (.int .u32 1) ∧
      w'.heap[n + 13]? = some (.cells #[.slice (some ⟨r, 0, none⟩) 1 cap, .map (some (n + 12))] 223 (0, 0)) ∧ w'.heap[n + 12]? = some (.map #[⟨.int .u32 1, .int .i64 1, cl⟩] (cl + 1)) := by
  have c12 : w.cell? ⟨n + 2, 12, none⟩ = some (pt (n + 14)) := cell_blk hg.box rfl
  have c20 : w.cell? ⟨n + 2, 20, none⟩ = some .nilIface := cell_blk hg.box rfl
  have HY := Lib.hid (ready_any hg.str hg.stg hg.snd h1)
  rw [show decide (0 < hv) = true by simpa using h2] at HY
  have HS := Lib.hid (sready_1 hg.sch hg.rb hg.rbm (by omega))
  clear hg h1 h2
  unfold pt at c12
  go_enter Tryz.func33, Tryz.ntmps33
  unfold pt
  go_wp2_with fail
  refine HY.out.mono ?_
  rintro e w ⟨rfl, rfl⟩
  go_wp2_with fail
  refine HS.out.mono ?_
  rintro e w1 ⟨rfl, hk⟩
  have K := Lib.hid hk
  clear hk
  go_wp2_with fail
  go_end0
  exact ⟨rfl, K.out⟩
/-- The row of a slice of one cell: in block r from offset o, room for cap. -/
def One (w : World) (E : TypeId) (r o cap : Nat) (x : Value) : Prop := ∃ cur, w.heap[r]? = some (.cells cur E (0, 0)) ∧ cur[o]? = some x ∧ 1 ≤ cap ∧ cap ≤ maxLen ∧ o + cap ≤ cur.size
set_option maxHeartbeats 2000000 in
theorem write_1 {w : World} {n s p : Nat} {c : Cf} {mk : Int} {lane : Array Value} {lnm : Obj} {og : Int} {ouf : Array Value} {sp : Int} {fz : Nat × Nat} (hg : SG w n s c mk lane lnm #[.slice none 0 0, .map (some (n + 12))] (.map #[] 0) og ouf 4 sp #[.int .i64 8, .slice none 0 0, .int .i64 0, .int .i64 0]) (hp : w.heap[p]? = some (.cells abcde 5 fz)) (hpq : p ≠ s + 1) :
    Calls Tryz.prog 13 #[pt (n + 2), .int .u32 1, .slice (some ⟨p, 0, none⟩) 5 5] w fun e w' => e = .returned (.tuple #[.int .i64 5, .nilIface]) ∧ Ch [s + 1, n + 13, n + 12] w w' ∧ ∃ b r cap, w.heap.size ≤ b ∧ w.heap.size ≤ r ∧ One w' 35 r 0 cap (.int .u32 1) ∧ w'.heap[b]? = some (.cells ab8 5 (0, 0)) ∧
      SG w' n s c mk lane lnm #[.slice (some ⟨r, 0, none⟩) 1 cap, .map (some (n + 12))] (.map #[⟨.int .u32 1, .int .i64 1, 0⟩] 1) og ouf 4 sp #[.int .i64 8, .slice (some ⟨b, 0, none⟩) 8 8, .int .i64 0, .int .i64 5] := by
  have HF := Lib.hid (find_1 hg)
  have H := Lib.hid hg
  have HP := Lib.hid hp
  have hs0 := hg.s0
  clear hg hp
  go_enter Tryz.func13, Tryz.ntmps13
  unfold pt
  go_wp2_with fail
  refine HF.out.mono ?_
  rintro e w1 ⟨rfl, hc1⟩
  have h1 := H.out.step hc1
  have HW := Lib.hid (swrite_5 h1.str h1.stg (hc1.at_ HP.out (by simp)) hpq)
  have H1 := Lib.hid h1
  have HC1 := Lib.hid hc1
  clear h1 hc1
  unfold pt
  go_wp2_with fail
  refine HW.out.mono ?_
  rintro e w2 ⟨rfl, hc2, b, hb, hq2, hb2⟩
  have h1 := H1.out
  have hz := blk_lt h1.str
  have h2 : SG w2 n s c mk lane lnm #[.slice none 0 0, .map (some (n + 12))] (.map #[] 0) og ouf 4 sp #[.int .i64 8, .slice (some ⟨b, 0, none⟩) 8 8, .int .i64 0, .int .i64 5] :=
    ⟨hc2.at_ h1.ouf (by simp; omega), hc2.at_ h1.out (by simp; omega), hc2.at_ h1.box (by simp; omega), hc2.at_ h1.ids (by simp; omega), hc2.at_ h1.tmp (by simp; omega), hc2.at_ h1.tab (by simp; omega), hc2.at_ h1.lnm (by simp; omega), hc2.at_ h1.ln (by simp; omega), hc2.at_ h1.rbm (by simp; omega), hc2.at_ h1.rb (by simp; omega), hc2.at_ h1.sch (by simp; omega), hc2.at_ h1.rst (by simp; omega), hc2.at_ h1.str (by simp), hc2.at_ h1.snd (by simp; omega), hq2, h1.s0⟩
  have HT := Lib.hid (turn_1 h2 (by decide) (by decide))
  have H2 := Lib.hid h2
  have K2 := Lib.hid (And.intro hc2 (And.intro hb hb2))
  clear h1 h2 hc2 hb hq2 hb2 hz
  unfold pt at HT
  go_wp2_with fail
  refine HT.out.mono ?_
  rintro e w3 ⟨rfl, hc3, r, cap, cur, hr, g1, g2, g3, g4, g5, g6, g7⟩
  have K3 := Lib.hid (And.intro hc3 (And.intro hr (And.intro g1 (And.intro g2 (And.intro g3 (And.intro g4 (And.intro g5 (And.intro g6 g7))))))))
  clear hc3 hr g1 g2 g3 g4 g5 g6 g7
  go_wp2_with fail
  go_ret2
  obtain ⟨hc3, hr, g1, g2, g3, g4, g5, g6, g7⟩ := K3.out
  obtain ⟨hc2, hb, hb2⟩ := K2.out
  have h2 := H2.out
  have s1 := HC1.out.size
  have s2 := hc2.size
  have hz : n + 15 < w2.heap.size := blk_lt h2.rst
  refine ⟨rfl, ?_, b, r, cap, by omega, by omega, ⟨cur, g4, g5, g1, g2, by omega⟩, hc3.at_ hb2 ?_, ?_⟩
  · exact (((Ch.refl [s + 1, n + 13, n + 12] w).trans HC1.out (by simp)).trans hc2 (by simp)).trans hc3 (by simp)
  · have := blk_lt H1.out.rst; simp; omega
  · exact ⟨hc3.at_ h2.ouf (by simp), hc3.at_ h2.out (by simp), hc3.at_ h2.box (by simp), hc3.at_ h2.ids (by simp), hc3.at_ h2.tmp (by simp), hc3.at_ h2.tab (by simp), hc3.at_ h2.lnm (by simp), hc3.at_ h2.ln (by simp), g7, g6, hc3.at_ h2.sch (by simp), hc3.at_ h2.rst (by simp), hc3.at_ h2.str (by simp; omega), hc3.at_ h2.snd (by simp; omega), hc3.at_ h2.stg (by simp; omega), h2.s0⟩
end Go.Proofs.YtnpmafnhbbaokaaGreatDoor
