/-
 culvertlaw26.joined and heard.
-/
import Derived.Test.YtidmgckmphcegaaGreatDoorMM
import Derived.Test.YtidmgckmphcegaaGreatDoorTAll
import Derived.Test.YtidmgckmphcegaaGreatDoorMD
namespace Go.Proofs.YtidmgckmphcegaaGreatDoor
open Go.RowKit Go.Proofs.YtidmgckmphcegaaGreatDoorW.PrintWords Go.Proofs.YtidmgckmphcegaaGreatDoorW.PrintLast Go.Proofs.YtidmgckmphcegaaGreatDoor.Px
set_option linter.unusedVariables false
set_option linter.unusedSimpArgs false
theorem pcs_byt {w : World} {A : Option Addr} {n c : Nat} {ps : List (List Int)} (h : Pcs w A n c ps) : ∀ p ∈ ps, ∀ x ∈ p, 0 ≤ x ∧ x ≤ 255 := by
 intro p hp
 obtain ⟨j, hj, rfl⟩ := List.getElem_of_mem hp
 have hn := h.len
 obtain ⟨b, o, _, hr⟩ := h.rd (by omega)
 obtain ⟨A', c', _, hB⟩ := hr j (by omega)
 have := hB.byt
 rwa [List.getD_eq_getElem?_getD, List.getElem?_eq_getElem hj] at this
theorem flat_take_succ {ps : List (List Int)} {k : Nat} (hk : k < ps.length) : (ps.take (k + 1)).flatten = (ps.take k).flatten ++ ps.getD k [] := by
 rw [List.take_succ_eq_append_getElem hk, List.flatten_append, List.getD_eq_getElem?_getD, List.getElem?_eq_getElem hk]
 simp
theorem flat_take_len (ps : List (List Int)) (k : Nat) : (ps.take k).flatten.length ≤ (ps.map List.length).sum := by
 rw [List.length_flatten]
 have h : (ps.map List.length).sum = ((ps.take k).map List.length).sum + ((ps.drop k).map List.length).sum := by
  rw [← List.sum_append, ← List.map_append, List.take_append_drop]
 omega
theorem flat_mem {ps : List (List Int)} (h : ∀ p ∈ ps, ∀ x ∈ p, 0 ≤ x ∧ x ≤ 255) (k : Nat) : ∀ x ∈ (ps.take k).flatten, 0 ≤ x ∧ x ≤ 255 := by
 intro x hx
 obtain ⟨p, hp, hx⟩ := List.mem_flatten.1 hx
 exact h p (List.mem_of_mem_take hp) x hx
theorem sumLen {ps : List (List Int)} {k : Nat} (hk : k < ps.length) : (ps.take k).flatten.length + (ps.getD k []).length ≤ (ps.map List.length).sum := by
 have h := flat_take_len ps (k + 1)
 rw [flat_take_succ hk, List.length_append] at h
 exact h
end Go.Proofs.YtidmgckmphcegaaGreatDoor
