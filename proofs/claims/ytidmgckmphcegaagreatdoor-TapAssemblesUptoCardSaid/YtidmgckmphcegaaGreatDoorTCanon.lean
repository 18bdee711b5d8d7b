/-
  TapCanon, walked: a line that is read is the line of what was read.
-/
import Derived.Test.YtidmgckmphcegaaGreatDoorMM
import Derived.Test.YtidmgckmphcegaaGreatDoorTSame
namespace Go.Proofs.YtidmgckmphcegaaGreatDoor
open Go.RowKit Go.Proofs.YtidmgckmphcegaaGreatDoorW.PrintWords Go.Proofs.YtidmgckmphcegaaGreatDoorW.PrintLast Go.Proofs.YtidmgckmphcegaaGreatDoor.Px
set_option linter.unusedVariables false
set_option linter.unusedSimpArgs false
theorem bs_nil (w : World) : Bs w none 0 0 [] := ⟨rfl, Nat.le_refl _, by omega, (by simp), fun _ => ⟨rfl, rfl⟩, fun h => absurd h (by simp)⟩
theorem EV_c {sa : Nat → Addr} {w : World} {c : Nat} (h : c = 40 ∨ c = 41 ∨ c = 15) : EV sa w c 0 (sv (sa c)) := .inr (.inl ⟨by omega, by omega, rfl⟩)
theorem canon_ne {l m : List UInt8} {h g : Hd} {d e : List Int} (h1 : gparse l = .ok (h, d)) (h2 : gparse m = .ok (g, e)) (hne : l.length ≠ m.length) : ¬ (h = g ∧ d = e) := by
  rintro ⟨rfl, rfl⟩
  have e1 := (gparse_ok h1).2.2.1
  have e2 := (gparse_ok h2).2.2.1
  exact hne (by rw [← e1, ← e2])
theorem ParseTo.ok {sa : Nat → Addr} {w : World} {l : List UInt8} {e : Ending} {w' : World} {h : Hd} {d : List Int} (hp : ParseTo sa w l e w') (hg : gparse l = .ok (h, d)) : ∃ A c, e = .returned (.tuple #[.agg (fcs h.ver h.ty h.fl h.st h.ln (.slice A d.length c)), .nilIface]) ∧ Bs w' A d.length c d ∧ Below w.heap.size w w' := by
  unfold ParseTo at hp
  rw [hg] at hp
  obtain ⟨v, rfl, ho, hb⟩ := hp
  obtain ⟨A, c, rfl, hq⟩ := Own.bs ho (gparse_ok hg).2.1
  exact ⟨A, c, rfl, hq, hb⟩
theorem ParseTo.err {sa : Nat → Addr} {w : World} {l : List UInt8} {e : Ending} {w' : World} {c : Nat} (hp : ParseTo sa w l e w') (hg : gparse l = .error c) : e = .returned (.tuple #[.agg (fcs 0 0 0 0 0 nilS), sv (sa c)]) ∧ Below w.heap.size w w' := by
  unfold ParseTo at hp
  rw [hg] at hp
  exact hp
theorem ParseTo.ne {sa : Nat → Addr} {w : World} {l m : List UInt8} {e : Ending} {w' : World} {h : Hd} {d : List Int} (hp : ParseTo sa w m e w') (h1 : gparse l = .ok (h, d)) (hne : l.length ≠ m.length) :
    ∃ (ver ty fl st ln : Nat) (A : Option Addr) (n c : Nat) (ys : List Int) (ev : Value), e = .returned (.tuple #[.agg (fcs ver ty fl st ln (.slice A n c)), ev]) ∧ Bs w' A n c ys ∧ ((ev = .nilIface ∧ ¬ (((⟨h.ver, h.ty, h.fl, h.st, h.ln⟩ : Hd) = ⟨ver, ty, fl, st, ln⟩) ∧ d = ys)) ∨ (∃ k, ev = sv (sa k))) ∧ Below w.heap.size w w' := by
  cases hg : gparse m with
  | error c =>
    obtain ⟨rfl, hb⟩ := hp.err hg
    exact ⟨0, 0, 0, 0, 0, none, 0, 0, [], _, rfl, bs_nil _, .inr ⟨c, rfl⟩, hb⟩
  | ok x =>
    obtain ⟨g, z⟩ := x
    obtain ⟨A, c, rfl, hq, hb⟩ := hp.ok hg
    exact ⟨g.ver, g.ty, g.fl, g.st, g.ln, A, _, c, z, _, rfl, hq, .inl ⟨rfl, canon_ne h1 hg hne⟩, hb⟩
end Go.Proofs.YtidmgckmphcegaaGreatDoor
