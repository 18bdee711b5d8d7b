/-
  The document's run, call by call: what a session holds after each.
-/
import Derived.Test.YtnpmafnhbbaokaaGreatDoorSTake
namespace Go.Proofs.YtnpmafnhbbaokaaGreatDoor
open Go Go.RowKit
open Go.ChangeMaps (setBlock)
set_option linter.unusedVariables false
set_option linter.unusedSimpArgs false
def cfS : Cf := ⟨4, 8, 3, 2, 2, 1, 64, 0⟩
theorem cfS_ok : CfOk cfS := by constructor <;> decide
def one1 : Array MapEntry := #[⟨.int .u32 1, .int .i64 1, 0⟩]
/-- Behind Write. -/
def PA (w : World) (n : Nat) : Prop := ∃ s ge b r cap rl cl cur, SG w n s cfS 0 (laneC (.slice (some ⟨rl, 0, none⟩) 1 cl) (n + 10) 1) (.map #[⟨kp, pt ge, 0⟩] 1) (rb1 r 0 1 cap n) (.map one1 1) 0 (ouC (.slice none 0 0) 0) 4 0 (rgC b 0 5) ∧
  w.heap[ge]? = some (.cells (syn1 false) 209 (0, 0)) ∧ w.heap[rl]? = some (.cells cur 199 (0, 0)) ∧ cur[0]? = some (pt ge) ∧ 1 ≤ cl ∧ cl ≤ maxLen ∧ n + 21 ≤ ge ∧
  One w 35 r 0 cap (.int .u32 1) ∧ n ≤ r ∧ w.heap[b]? = some (.cells ab8 5 (0, 0)) ∧ n + 21 ≤ w.heap.size
/-- Behind the ticket's frame: so many Data frames are to come. -/
def PD (w : World) (n h m : Nat) (hv sp : Int) (l : Nat) (fs : List (List Int)) : Prop := ∃ s b r o cap A k v es, ∃ qs : List (Value × List Int), qs.map (·.2) = fs ∧ SG w n s cfS 1 (laneC (.slice A 0 k) (n + 10) 0) (.map #[] 1) (rb1 r o l cap n) (.map es 1) 0 (ouC v (tot qs)) hv sp (rgC b h m) ∧
  (l = 1 → es = one1 ∧ One w 35 r o cap (.int .u32 1)) ∧ w.heap[b]? = some (.cells ab8 5 (0, 0)) ∧ n ≤ r ∧ Fq w n (n + 21) qs v ∧ n + 21 ≤ w.heap.size
def fr_1 : List Int := enc 0 1 1 1 0
def fr_2 : List Int := enc 0 0 0 1 (3 : Nat) ++ dat 0 3
def fr_3 : List Int := enc 0 0 0 1 (1 : Nat) ++ dat 3 1
theorem tot_map (qs : List (Value × List Int)) : tot qs = ((qs.map (·.2)).map List.length).sum := by simp [tot, Function.comp_def]
theorem phase_1 {w : World} {n : Nat} (h : PA w n) (hE : ∀ W, Below n w W → Frm W) :
    Calls Tryz.prog 14 #[pt (n + 2)] w fun e w' => e = .returned (.bool true) ∧ PD w' n 0 5 4 0 1 [fr_1] ∧ Below n w w' := by
  obtain ⟨s, ge, b, r, cap, rl, cl, cur, hg, he, hr, hx, hc1, hc2, hge, ho, hrn, hb, hz⟩ := h
  have hq : Fq w n (n + 21) [] (.slice none 0 0) := ⟨hg.ouf, ⟨rfl, .inl ⟨rfl, rfl⟩⟩, fun q hq => by cases hq⟩
  refine (step_syn cfS_ok (Nat.le_refl _) hz (by simp) (by decide) hg hq he hr hx hc1 hc2 hE hge).mono ?_
  rintro e w' ⟨rfl, hc, A, k, y, v', h1, h2⟩
  have hc' : Ch [n + 11, ge, n + 10, n + 4, n] w w' := hc.mono (fun j hj => .inl (by simpa [Value.ownBlock] using hj))
  obtain ⟨cu, k1, k2⟩ := id ho
  have m1 := type_ne k1 hg.ln (by decide)
  have m2 := type_ne k1 he (by decide)
  have m3 := map_ne k1 hg.lnm
  have m4 := type_ne k1 hg.ids (by decide)
  have m5 := type_ne k1 hg.ouf (by decide)
  have b1 := type_ne hb hg.ln (by decide)
  have b2 := type_ne hb he (by decide)
  have b3 := map_ne hb hg.lnm
  have b4 := type_ne hb hg.ids (by decide)
  have b5 := type_ne hb hg.ouf (by decide)
  exact ⟨rfl, ⟨s, b, r, 0, cap, A, k, v', one1, [(y, enc 0 1 1 1 0)], rfl, h1, fun _ => ⟨rfl, ho.step hc' (by simp; omega)⟩, hc'.at_ hb (by simp; omega), hrn, h2, Nat.le_trans hz hc.size⟩, hc'.below (fun j hj => by simp only [List.mem_cons, List.not_mem_nil, or_false] at hj; omega) (by omega)⟩
theorem phase_d {w : World} {n h m j : Nat} {hv sp hv' sp' : Int} {l' : Nat} {fs : List (List Int)} {x : Addr} (hp : PopH h m j hv) (h0 : PD w n h m hv sp 1 fs) (hx : w.cell? ⟨3, 0, none⟩ = some (sv x)) (hgx : 3 < n) (hs0 : 0 ≤ sp) (hs1 : sp ≤ 1000000) (hl : fs.length ≤ 100) (hfs : ((fs.map List.length).sum : Int) < 64) (e1 : hv' = hv - j) (e2 : sp' = sp + j) (e3 : l' = if hv = 4 then 1 else 0) :
    Calls Tryz.prog 14 #[pt (n + 2)] w fun e w' => e = .returned (.bool true) ∧ PD w' n (h + j) (m - j) hv' sp' l' (fs ++ [enc 0 0 0 1 j ++ dat h j]) ∧ Below n w w' := by
  obtain ⟨s, b, r, o, cap, A, k, v, es, qs, hqs, hg, ho, hb, hrn, hq, hz⟩ := h0
  have ho1 := (ho rfl).2
  have hes := (ho rfl).1
  subst hes
  have hlen : qs.length = fs.length := by rw [← hqs]; simp
  refine (step_dat cfS_ok hp rfl hx hgx hrn (Nat.le_refl _) hz (by omega) (by rw [tot_map, hqs]; exact hfs) hg ho1 hb hq hs0 hs1).mono ?_
  rintro e w' ⟨rfl, y, v', r', o', l2, cap', es', hr', h1, hor, h2, hb', hbl⟩
  subst e1; subst e2
  refine ⟨rfl, ⟨s, b, r', o', cap', A, k, v', es', _, by rw [List.map_append, hqs]; rfl, ?_, ?_, hb', hr', h2, Nat.le_trans hz hbl.size⟩, hbl⟩
  · rcases hor with ⟨q1, q2, _⟩ | ⟨q1, q2, _⟩
    · subst q2; rw [e3, if_pos q1]; exact h1
    · subst q2; rw [e3, if_neg (by omega)]; exact h1
  · intro hl1
    rcases hor with ⟨q1, q2, q3, q4⟩ | ⟨q1, q2, _⟩
    · exact ⟨q3, q4⟩
    · rw [e3, if_neg (by omega)] at hl1; cases hl1
theorem PD.step {w w1 : World} {n h m : Nat} {hv sp : Int} {l : Nat} {fs : List (List Int)} (h0 : PD w n h m hv sp l fs) (hc : Ch [] w w1) : PD w1 n h m hv sp l fs := by
  obtain ⟨s, b, r, o, cap, A, k, v, es, qs, hqs, hg, ho, hb, hrn, hq, hz⟩ := h0
  exact ⟨s, b, r, o, cap, A, k, v, es, qs, hqs, hg.step hc, fun h => ⟨(ho h).1, (ho h).2.step hc (by simp)⟩, hc.at_ hb (by simp), hrn, hq.step hc (by simp) (NoQ.nil _), Nat.le_trans hz hc.size⟩
theorem phase_0 {w : World} {n h m : Nat} {hv sp : Int} {fs : List (List Int)} (h0 : PD w n h m hv sp 0 fs) (hfs : ((fs.map List.length).sum : Int) < 64) :
    Calls Tryz.prog 14 #[pt (n + 2)] w fun e w' => e = .returned (.bool false) ∧ PD w' n h m hv sp 0 fs ∧ Below n w w' := by
  obtain ⟨s, b, r, o, cap, A, k, v, es, qs, hqs, hg, ho, hb, hrn, hq, hz⟩ := h0
  refine (step_0 cfS_ok (by rw [tot_map, hqs]; exact hfs) hg).mono ?_
  rintro e w' ⟨rfl, hc⟩
  exact ⟨rfl, ⟨s, b, r, o, cap, A, k, v, es, qs, hqs, hg.step hc, (fun h => by cases h), hc.at_ hb (by simp), hrn, hq.step hc (by simp) (NoQ.nil _), Nat.le_trans hz hc.size⟩, hc.below (fun j hj => by cases hj) (by omega)⟩
theorem phase_t {w : World} {n h m : Nat} {hv sp : Int} {l : Nat} (h0 : PD w n h m hv sp l [fr_1, fr_2, fr_3]) :
    Calls Tryz.prog 16 #[pt (n + 2), .int .i64 100] w fun e w' => ∃ u, e = .returned u ∧ Own w' w.heap.size u (fr_1 ++ fr_2 ++ fr_3) ∧ Below n w w' ∧ ∀ B' v' xs', Own w B' v' xs' → Own w' B' v' xs' := by
  obtain ⟨s, b, r, o, cap, A, k, v, es, qs, hqs, hg, ho, hb, hrn, hq, hz⟩ := h0
  match qs, hqs with
  | [(y1, x1), (y2, x2), (y3, x3)], hqs =>
    simp only [List.map_cons, List.map_nil, List.cons.injEq, and_true] at hqs
    obtain ⟨rfl, rfl, rfl⟩ := hqs
    have HT := Lib.hid (otake_3 hq hg.out (by omega) hz (by decide) (by decide) (by decide))
    have c17 : w.cell? ⟨n + 2, 17, none⟩ = some (.pointer (some ⟨n + 1, 0, none⟩)) := cell_blk hg.box rfl
    clear hg ho hb hq
    unfold pt at HT
    go_enter Tryz.func16, Tryz.ntmps16
    unfold pt
    go_wp2_with fail
    refine HT.out.mono ?_
    rintro e w' ⟨u, rfl, h1, h2, h3⟩
    have K := Lib.hid (And.intro h1 (And.intro h2 h3))
    clear h1 h2 h3
    go_wp2_with fail
    go_ret
    exact ⟨u, rfl, K.out.1, K.out.2.1, K.out.2.2⟩
end Go.Proofs.YtnpmafnhbbaokaaGreatDoor
