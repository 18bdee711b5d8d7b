/-
  session.Step: a Data frame is laid out.
-/
import Derived.Test.YtnpmafnhbbaokaaGreatDoorSNextD
namespace Go.Proofs.YtnpmafnhbbaokaaGreatDoor
open Go Go.RowKit
open Go.ChangeMaps (setBlock)
set_option linter.unusedVariables false
set_option linter.unusedSimpArgs false
theorem bs_dat {w : World} {h m j g : Nat} (hp : PopC h m j) (hg : w.heap[g]? = some (.cells (dv h j) 5 (0, 0))) : Bs w (some ⟨g, 0, none⟩) j j (dat h j) := by
  rcases hp with ⟨rfl, rfl, rfl⟩ | ⟨rfl, rfl, rfl⟩
  · refine ⟨rfl, Nat.le_refl _, by omega, by decide, (fun e => by cases e), fun _ => ⟨g, 0, rfl, fun i hi => ?_⟩⟩
    have hi' : i = 0 ∨ i = 1 ∨ i = 2 := by omega
    rcases hi' with rfl | rfl | rfl <;> exact cell_blk hg rfl
  · refine ⟨rfl, Nat.le_refl _, by omega, by decide, (fun e => by cases e), fun _ => ⟨g, 0, rfl, fun i hi => ?_⟩⟩
    have hi' : i = 0 := by omega
    subst hi'
    exact cell_blk hg rfl
/-- What a step leaves that laid out a Data frame. -/
def StD (w w' : World) (c : Cf) (n s b h m j B k : Nat) (A : Option Addr) (hv sp : Int) (qs : List (Value × List Int)) : Prop := ∃ y v' r' o' l' cap' es',
  n ≤ r' ∧ SG w' n s c 1 (laneC (.slice A 0 k) (n + 10) 0) (.map #[] 1) (rb1 r' o' l' cap' n) (.map es' 1) 0 (ouC v' (tot (qs ++ [(y, enc 0 0 0 1 j ++ dat h j)]))) (hv - j) (sp + j) (rgC b (h + j) (m - j)) ∧
  ((hv = 4 ∧ l' = 1 ∧ es' = #[⟨.int .u32 1, .int .i64 1, 0⟩] ∧ One w' 35 r' o' cap' (.int .u32 1)) ∨ (hv = 1 ∧ l' = 0 ∧ es' = #[])) ∧
  Fq w' n B (qs ++ [(y, enc 0 0 0 1 j ++ dat h j)]) v' ∧ w'.heap[b]? = some (.cells ab8 5 (0, 0)) ∧ Below n w w'
set_option maxRecDepth 100000 in
set_option maxHeartbeats 4000000 in
theorem step_dat {w : World} {n s b h m j r o cap B k : Nat} {A : Option Addr} {c : Cf} (hc : CfOk c) {hv sp : Int} {v : Value} {qs : List (Value × List Int)} {x : Addr} (hp : PopH h m j hv) (hfr : c.frm = 3) (hx : w.cell? ⟨3, 0, none⟩ = some (sv x)) (hgx : 3 < n) (hrn : n ≤ r) (hB : n + 21 ≤ B) (hBw : B ≤ w.heap.size) (hqs : qs.length ≤ 100000) (hqt : (tot qs : Int) < c.out)
    (hg : SG w n s c 1 (laneC (.slice A 0 k) (n + 10) 0) (.map #[] 1) (rb1 r o 1 cap n) (.map #[⟨.int .u32 1, .int .i64 1, 0⟩] 1) 0 (ouC v (tot qs)) hv sp (rgC b h m)) (ho : One w 35 r o cap (.int .u32 1)) (hb : w.heap[b]? = some (.cells ab8 5 (0, 0))) (hq : Fq w n B qs v) (s0 : 0 ≤ sp) (s1 : sp ≤ 1000000) :
    Calls Tryz.prog 14 #[pt (n + 2)] w fun e w' => e = .returned (.bool true) ∧ StD w w' c n s b h m j B k A hv sp qs := by
  have c6 : w.cell? ⟨n + 2, 6, none⟩ = some (.int .i64 c.out) := cell_blk hg.box rfl
  have c12 : w.cell? ⟨n + 2, 12, none⟩ = some (.pointer (some ⟨n + 14, 0, none⟩)) := cell_blk hg.box rfl
  have c17 : w.cell? ⟨n + 2, 17, none⟩ = some (.pointer (some ⟨n + 1, 0, none⟩)) := cell_blk hg.box rfl
  have c20 : w.cell? ⟨n + 2, 20, none⟩ = some .nilIface := cell_blk hg.box rfl
  have ho2 := hc.o2
  have HLn : ∀ k, Calls Tryz.prog 35 #[.pointer (some ⟨n + 1, 0, none⟩)] (w.drewN k) fun e w' => e = .returned (.int .i64 (tot qs - 0)) ∧ ∃ m, w' = (w.drewN k).drewN m := fun k => olen_any (w := w.drewN k) hg.ouf hg.out (by decide) (by omega) (by omega)
  have d1 : decide (c.out ≤ (tot qs : Int)) = false := by simp; omega
  have d2 : decide (c.out ≤ (tot qs : Int) - 0) = false := by simp; omega
  have hzn := hg.s0
  have HN := Lib.hid (fun i => snext_d (w := w.drewN i) (c := c) (x := x) hp hfr hx hgx (hg.step ((Ch.refl [] w).drewN i)) (by omega) (ho.step ((Ch.refl [] w).drewN i) (by simp)) hb s0 s1)
  have H := Lib.hid (And.intro hg (And.intro ho (And.intro hb hq)))
  have HP := Lib.hid hp
  clear hg hq ho hb hx hp
  go_enter Tryz.func14, Tryz.ntmps14
  unfold pt
  go_wp2_with fail
  go_quiet ((go_at_call 35; exact Calls.quiet_of (HLn _)))
  go_wp2_with fail
  refine (HN.out nq).mono ?_
  rintro e w1 ⟨g, rfl, hg1, hd1, hc1, hn1⟩
  have K1 := Lib.hid (And.intro hg1 (And.intro hd1 (And.intro hc1 hn1)))
  clear hg1 hd1 hc1 hn1 c6 c12 c17 c20 HLn d1 d2
  unfold hdA
  go_upto_region 15 with fail
  obtain ⟨w2, hw2⟩ : ∃ w2, w2 = (w1.alloc (.cells #[.int .u8 0, .int .u8 0, .int .u16 0, .int .u32 1, .int .u32 j, .slice (some ⟨g, 0, none⟩) j j] 89)).alloc (.cells #[.int .u8 0, .int .u8 0, .int .u16 0, .int .u32 1, .int .u32 j] 87) := ⟨_, rfl⟩
  rw [← hw2]
  obtain ⟨hg1, hd1, hc1, hn1⟩ := K1.out
  obtain ⟨hg, ho, hb, hq⟩ := H.out
  obtain ⟨r', o', l', cap', es', hr', h1, hor⟩ := hn1
  obtain ⟨curr, hrr, _⟩ := id ho
  have hb2 : Below w1.heap.size w1 w2 := by rw [hw2]; exact ((Below.refl _ _).alloc (Nat.le_refl _) _).alloc (by simp) _
  have f2 : w2.heap[w1.heap.size]? = some (.cells (fr6 0 0 1 j (.slice (some ⟨g, 0, none⟩) j j)) 89 (0, 0)) := by rw [hw2]; exact alloc_old _ (alloc_is _ rfl)
  have hc2 := Ch.of_below (L := []) hb2
  have h2 := h1.step hc2
  have hc01 : Ch [n + 13, r, n + 12, s + 1, s - 2] w w1 := ((Ch.refl _ w).drewN nq).trans hc1 (fun j hj => .inl hj)
  have nrn := type_ne hg.ouf hrr (by decide)
  have hnq : NoQ w [n + 13, r, n + 12, s + 1, s - 2] := (((((NoQ.nil w).cells hg.snd (by decide) (by decide)).cells hg.stg (by decide) (by decide)).map hg.rbm).cells hrr (by decide) (by decide)).cells hg.rb (by decide) (by decide)
  have q2 := (hq.step hc01 (by simp; omega) hnq).step hc2 (by simp) (NoQ.nil _)
  have nb1 := type_ne hb hg.rb (by decide)
  have nb2 := type_ne hb hrr (by decide)
  have nb3 := map_ne hb hg.rbm
  have nb4 := type_ne hb hg.stg (by decide)
  have nb5 := type_ne hb hg.snd (by decide)
  have hbb2 := hc2.at_ (hc01.at_ hb (by simp; omega)) (by simp)
  have hBB : B ≤ w2.heap.size := by have := hc01.size; have := hc2.size; omega
  have hjl : (j : Int) ≤ 4294967295 ∧ tot qs + 12 + j ≤ 1000000000 := by rcases HP.out with ⟨rfl, rfl, rfl, rfl⟩ | ⟨rfl, rfl, rfl, rfl⟩ <;> constructor <;> omega
  have HPUT := Lib.hid (oput_any (w := w2.drew) (n := n) (B := B) (og := .int .i64 0) (q2.step (L := []) (Ch.refl _ _).drew (by simp) (NoQ.nil _)) h2.out 0 0 1 j (some ⟨g, 0, none⟩) j j (dat h j) (bs_dat HP.out.c (drew_blk (hc2.at_ hd1 (by simp)))) hBB (by omega) (by omega) hjl.2 (by omega) (by omega) (by omega) (by omega) (by omega) hjl.1 (by omega) (by omega) rfl)
  have c17 : w2.cell? ⟨n + 2, 17, none⟩ = some (.pointer (some ⟨n + 1, 0, none⟩)) := cell_blk h2.box rfl
  have a0 : w2.cell? ⟨w1.heap.size, 0, none⟩ = some (.int .u8 0) := cell_blk f2 rfl
  have a1 : w2.cell? ⟨w1.heap.size, 1, none⟩ = some (.int .u8 0) := cell_blk f2 rfl
  have a2 : w2.cell? ⟨w1.heap.size, 2, none⟩ = some (.int .u16 0) := cell_blk f2 rfl
  have a3 : w2.cell? ⟨w1.heap.size, 3, none⟩ = some (.int .u32 1) := cell_blk f2 rfl
  have a4 : w2.cell? ⟨w1.heap.size, 4, none⟩ = some (.int .u32 j) := cell_blk f2 rfl
  have a5 : w2.cell? ⟨w1.heap.size, 5, none⟩ = some (.slice (some ⟨g, 0, none⟩) j j) := cell_blk f2 rfl
  have hzz : n + 15 < w.heap.size := blk_lt hg.rst
  have nbn := type_ne hb hg.ouf (by decide)
  have K2 := Lib.hid (And.intro h2 (And.intro q2 (And.intro hbb2 (And.intro hc01 (And.intro hc2 (And.intro hr' hor))))))
  clear hg1 hd1 hc1 hg ho hb hq hrr hb2 f2 hc2 h2 hc01 hnq q2 hbb2 hr' hor hw2 h1
  unfold hdA at HPUT
  refine wp_region_still_tail 5 (by kernel_rfl) (by kernel_rfl) ?_
  simp only [List.take_succ_cons, List.take_zero, List.drop_succ_cons, List.drop_zero]
  repeat still_step
  refine wpStill_nil ?_
  change wpList _ _ _ _ _ w2.drew
  go_wp2_with fail
  refine HPUT.out.mono ?_
  rintro e w4 ⟨rfl, hk⟩
  have K := Lib.hid hk
  clear hk
  go_wp2_with fail
  go_ret
  obtain ⟨hc4, y, v', q4⟩ := K.out
  obtain ⟨h2, q2, hbb2, hc01, hc2, hr', hor⟩ := K2.out
  have q2d := q2.step (L := []) (Ch.refl _ _).drew (by simp) (NoQ.nil _)
  have hcc : Ch ([n + 13, r, n + 12, s + 1, s - 2, n] ++ v.ownBlock.toList) w w4 := ((hc01.mono (fun j hj => .inl (List.mem_append_left _ (by simp only [List.mem_cons, List.not_mem_nil, or_false] at hj ⊢; omega)))).trans hc2 (fun j hj => by cases hj)).drew.trans hc4 (fun j hj => .inl (by rcases List.mem_cons.1 hj with e | hj; exact List.mem_append_left _ (by simp [e]); exact List.mem_append_right _ hj))
  have hr0 : r' = r ∨ w.heap.size < r' := hr'
  refine ⟨rfl, y, v', r', o', l', cap', es', by omega, (h2.step (Ch.refl _ _).drew).put q2d hc4 q4.box, ?_, q4, hc4.at_ (drew_blk hbb2) (notin_c q2d (drew_blk hbb2) (by decide) (by omega)), hcc.below (fun j hj => ?_) (by omega)⟩
  · refine hor.imp (fun ⟨e1, e2, e3, e4⟩ => ⟨e1, e2, e3, ?_⟩) id
    have e4' := (e4.step hc2 (by simp)).step (L := []) (Ch.refl _ _).drew (by simp)
    obtain ⟨cu, k1, _⟩ := id e4'
    exact e4'.step hc4 (notin_c q2d k1 (by decide) (type_ne k1 (drew_blk h2.ouf) (by decide)))
  · rcases List.mem_append.1 hj with hj | hj
    · simp only [List.mem_cons, List.not_mem_nil, or_false] at hj; omega
    · obtain ⟨cu, _, k2⟩ := owns_type q2.row j (Option.mem_toList.1 hj)
      omega
end Go.Proofs.YtnpmafnhbbaokaaGreatDoor
