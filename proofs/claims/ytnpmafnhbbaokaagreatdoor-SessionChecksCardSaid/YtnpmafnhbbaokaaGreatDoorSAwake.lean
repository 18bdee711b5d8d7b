/-
  Awake: the document's run.
-/
import Derived.Test.YtnpmafnhbbaokaaGreatDoorSPhase
import Derived.Laws.BytesArg
namespace Go.Proofs.YtnpmafnhbbaokaaGreatDoor
open Go Go.RowKit
open Go.ChangeMaps (setBlock)
set_option linter.unusedVariables false
set_option linter.unusedSimpArgs false
theorem str_of {w : World} {A : Option Addr} {n c : Nat} {xs : List Int} (h : Bs w A n c xs) : (convert 40 9 (.slice A n c)).run Tryz.prog w = .ok (.string (strOfNums xs)) w := by
  rcases Nat.eq_zero_or_pos n with h0 | h0
  · subst h0
    have : xs = [] := List.eq_nil_of_length_eq_zero h.len
    subst this
    rw [run_convert_bytes_string w 40 9 5 A 0 c Tryz.underlying40 Tryz.underlying5 Tryz.underlying9]
    cases A <;> rfl
  · obtain ⟨b, o, rfl, hr⟩ := h.rd h0
    exact run_convert_bytes_arg w 40 5 Tryz.underlying40 Tryz.underlying5 b o n c xs h.len hr 9 Tryz.underlying9
theorem same_18 {w : World} {A B : Option Addr} {n c m d : Nat} {xs : List Int} (hx : Bs w A n c xs) (hy : Bs w B m d xs) :
    Calls Tryz.prog 15 #[.slice A n c, .slice B m d] w fun e w' => e = .returned (.bool true) ∧ w' = w := by
  have h1 := str_of hx
  have h2 := str_of hy
  clear hx hy
  go_enter Tryz.func15, Tryz.ntmps15
  go_wp2_with fail
  go_ret
  exact ⟨by simp, rfl⟩
theorem small_18 {w : World} : Calls Tryz.prog 6 #[] w fun e w' => e = .returned (.agg (cfA cfS)) ∧ Below w.heap.size w w' := by
  go_enter Tryz.func6, Tryz.ntmps6
  go_wp2_with fail
  refine bodyPost_ret (v := .agg (cfA cfS)) ?_ rfl ⟨rfl, ?_⟩
  · simp [results, Tryz.results6, go_sem, cfA, cfS]
  · repeat (first | with_reducible exact Below.refl _ _ | with_reducible refine Below.alloc ?_ (by simp) _ | with_reducible refine Below.setCell ?_ (by simp) _)
/-- The write of the document's five bytes. -/
theorem phase_w {w : World} {n p : Nat} {fz : Nat × Nat} (h : ∃ s ge, SO w n s ge cfS) (hz : n + 21 ≤ w.heap.size) (hp : w.heap[p]? = some (.cells abcde 5 fz)) :
    Calls Tryz.prog 13 #[pt (n + 2), .int .u32 1, .slice (some ⟨p, 0, none⟩) 5 5] w fun e w' => e = .returned (.tuple #[.int .i64 5, .nilIface]) ∧ PA w' n ∧ Below n w w' := by
  obtain ⟨s, ge, h⟩ := h
  obtain ⟨rl, cl, cur, hln, hrl, hx, hc1, hc2⟩ := h.ln
  have hg : SG w n s cfS 0 (laneC (.slice (some ⟨rl, 0, none⟩) 1 cl) (n + 10) 1) (.map #[⟨kp, pt ge, 0⟩] 1) #[.slice none 0 0, .map (some (n + 12))] (.map #[] 0) 0 (ouC (.slice none 0 0) 0) 4 0 #[.int .i64 8, .slice none 0 0, .int .i64 0, .int .i64 0] :=
    ⟨h.ouf, h.out, h.box, h.ids, h.tmp, h.tab, h.lnm, hln, h.rbm, h.rb, h.sch, h.rst, h.str, h.snd, h.stg, h.s0⟩
  have hs0 := h.s0
  refine (write_1 hg hp (type_ne hp hg.stg (by decide))).mono ?_
  rintro e w' ⟨rfl, hc, b, r, cap, hb, hr, ho, hb8, h1⟩
  have n1 := type_ne h.ent hg.stg (by decide)
  have n2 := type_ne h.ent hg.rb (by decide)
  have n3 := map_ne h.ent hg.rbm
  have m1 := type_ne hrl hg.stg (by decide)
  have m2 := type_ne hrl hg.rb (by decide)
  have m3 := map_ne hrl hg.rbm
  exact ⟨rfl, ⟨s, ge, b, r, cap, rl, cl, cur, h1, hc.at_ h.ent (by simp; omega), hc.at_ hrl (by simp; omega), hx, hc1, hc2, h.e0, ho, by omega, hb8, Nat.le_trans hz hc.size⟩, hc.below (fun j hj => by simp only [List.mem_cons, List.not_mem_nil, or_false] at hj; omega) (by omega)⟩
/-- What the document says. -/
def wantB : List Int := [0, 1, 0, 1, 0, 0, 0, 1, 0, 0, 0, 0, 0, 0, 0, 0, 0, 0, 0, 1, 0, 0, 0, 3, 97, 98, 99, 0, 0, 0, 0, 0, 0, 0, 1, 0, 0, 0, 1, 100]
theorem all_same : fr_1 ++ fr_2 ++ fr_3 = wantB := by decide
end Go.Proofs.YtnpmafnhbbaokaaGreatDoor
