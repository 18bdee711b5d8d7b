/-
 A list of bytes that a call answers, as it is read.
-/
import Derived.Test.YtidmgckmphcegaaGreatDoorTRWalk
namespace Go.Proofs.YtidmgckmphcegaaGreatDoor
open Go Go.RowKit Go.Proofs.YtidmgckmphcegaaGreatDoorW.PrintWords Go.Proofs.YtidmgckmphcegaaGreatDoorW.PrintLast Go.Proofs.YtidmgckmphcegaaGreatDoorW.PrintMore Go.Proofs.YtidmgckmphcegaaGreatDoor.Px Go.Proofs.YtidmgckmphcegaaGreatDoor.PTapAssembles
set_option linter.unusedVariables false
set_option linter.unusedSimpArgs false
theorem R_bs {w : World} {B : Nat} {ok : Nat → Prop} {A : Option Addr} {c : Nat} {xs : List Int} (h : Kd.R (Kd.int .u8) 5 w B ok (.slice A xs.length c) xs) (hx : ∀ x ∈ xs, 0 ≤ x ∧ x ≤ 255) : Bs w A xs.length c xs := by
 have h' := h
 obtain ⟨_, inner, ho, _⟩ := h'
 rcases ho.2 with ⟨hv, hz⟩ | ⟨g, cap, cur, hv, hb, hh, hn, hm, hs, ht⟩
 · injection hv with h1 h2 h3
   subst h1; subst h3
   exact ⟨rfl, by omega, by omega, hx, fun _ => ⟨hz, rfl⟩, fun h => by omega⟩
 · injection hv with h1 h2 h3
   subst h1; subst h3
   refine ⟨rfl, hn, by simpa [maxLen] using hm, hx, (fun e => by cases e), fun _ => ⟨g, 0, rfl, fun j hj => ?_⟩⟩
   obtain ⟨c', hcl, hM, hc⟩ := Kd.R_get h 0 (j : Int) (by omega) (by omega)
   rw [Int.toNat_natCast] at hM
   have hM' : c' = [Value.int .u8 (xs.getD j 0)] := hM
   have := hc 0 (.int .u8 (xs.getD j 0)) (by rw [hM']; rfl)
   rw [show (j : Int).toNat * (Kd.int .u8).sz + 0 = j by show (j : Int).toNat * 1 + 0 = j; omega] at this
   rw [Addr.add_lit] at this
   exact this
end Go.Proofs.YtidmgckmphcegaaGreatDoor
