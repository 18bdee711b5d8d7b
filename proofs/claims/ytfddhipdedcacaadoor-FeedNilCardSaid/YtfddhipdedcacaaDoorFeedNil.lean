/-
  FeedNil.
-/
import Derived.Test.YtfddhipdedcacaaDoorMC
namespace Go.Proofs.YtfddhipdedcacaaDoor
open Go.RowKit Go.Proofs.YtfddhipdedcacaaDoorW.PrintWords Go.Proofs.YtfddhipdedcacaaDoorW.PrintLast Go.Proofs.YtfddhipdedcacaaDoor.PFeedPieces
set_option linter.unusedVariables false
set_option linter.unusedSimpArgs false
set_option maxRecDepth 100000 in
theorem feedNil_walk {sa : Nat → Addr} {w : World} (hG : Good w sa) (hL : Lawful w) (hT : ErT w) (A : Option Addr) (n c : Nat) :
    Calls Tryd.prog 12 #[.slice A n c] w fun e w' => e = .returned (.bool true) ∧ Below w.heap.size w w' := by
  have HG := Lib.hid hG
  have hf := fixed_any hG hL hT
  clear hG hL hT
  go_enter Tryd.func12, Tryd.ntmps12
  go_wp2_with fail
  refine hf.mono ?_
  rintro e w1 ⟨rfl, hb1⟩
  have HB1 := Lib.hid hb1
  have HG1 := Lib.hid (HG.out.below hb1)
  clear hb1 hf
  go_wp2_with fail
  refine (feed_nilp HG1.out _).mono ?_
  rintro e w2 ⟨rfl, hb2⟩
  have HB2 := Lib.hid (belowT HB1.out hb2)
  have HG2 := Lib.hid (HG1.out.below hb2)
  clear hb2
  go_wp2_with fail
  refine (code_any HG2.out (.inr (.inl ⟨by omega, by omega, rfl⟩) : EV sa w2 1 0 (sv (sa 1)))).mono ?_
  rintro e w3 ⟨rfl, rfl⟩
  go_wp2_with fail
  refine held_nil.mono ?_
  rintro e w4 ⟨rfl, rfl⟩
  go_wp2_with fail
  refine wants_nil.mono ?_
  rintro e w5 ⟨rfl, rfl⟩
  go_wp2_with fail
  refine err_nilp.mono ?_
  rintro e w6 ⟨rfl, rfl⟩
  go_wp2_with fail
  go_ret
  exact ⟨rfl, HB2.out⟩
end Go.Proofs.YtfddhipdedcacaaDoor
