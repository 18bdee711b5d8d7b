/-
  TapAssembles, walked: every text's bytes, or its error.
-/
import Derived.Test.YtidmgckmphcegaaGreatDoorTJoins
import Derived.Test.YtidmgckmphcegaaGreatDoorTCanon
import Derived.Test.YtidmgckmphcegaaGreatDoorTRAss
namespace Go.Proofs.YtidmgckmphcegaaGreatDoor
open Go.RowKit Go.Proofs.YtidmgckmphcegaaGreatDoorW.PrintWords Go.Proofs.YtidmgckmphcegaaGreatDoorW.PrintLast Go.Proofs.YtidmgckmphcegaaGreatDoor.Px
set_option linter.unusedVariables false
set_option linter.unusedSimpArgs false
set_option maxRecDepth 100000 in
set_option maxHeartbeats 4000000 in
theorem tapAssembles_walk {sa : Nat → Addr} {w : World} (hE : TE sa w) (s : ByteArray) (hs : s.size ≤ 1048576) :
    Calls Tryz.prog 5 #[.string s] w fun e w' => e = .returned (.bool true) ∧ Below w.heap.size w w' := by
  have HE := Lib.hid hE
  have HS := Lib.hid hs
  clear hE hs
  go_enter Tryz.func5, Tryz.ntmps5
  go_wp2_with fail
  refine (wakes_any HE.out).mono ?_
  rintro e w1 ⟨rfl, hb1⟩
  have HB1 := Lib.hid hb1
  clear hb1
  go_wp2_with fail
  refine (rasm_any s (by have := HS.out; omega) w1).mono ?_
  rintro e w2 ⟨hb2, he2⟩
  have HB2 := Lib.hid (belowT HB1.out hb2)
  clear hb2
  have hE2 := HE.out.below HB2.out
  cases hg : gasm s.data.toList with
  | error c =>
    rw [hg] at he2
    obtain rfl := he2
    have hc := gasm_err hg
    have HGP := Lib.hid hg
    clear hg
    go_wp2_with fail
    refine (asm_any s (by have := HS.out; omega) w2 hE2.good hE2.pow hE2.wrd hE2.ner hE2.mxl).mono ?_
    intro e w3 hp3
    unfold AsmTo at hp3
    rw [HGP.out] at hp3
    obtain ⟨rfl, hb3⟩ := hp3
    have HB3 := Lib.hid (belowT HB2.out hb3)
    clear hb3 hE2
    have H3 := Lib.hid (str_of (bs_nil w3))
    go_wp2_with fail
    rw [H3.out]
    go_wp2_with fail
    rw [H3.out]
    go_wp2_with fail
    refine (code_any (sa := sa) (w := w3) (c := c) (s := 0) (v := sv (sa c)) (HE.out.below HB3.out).good (EV_c hc)).mono ?_
    rintro e w5 ⟨rfl, rfl⟩
    go_wp2_with fail
    go_ret
    exact ⟨rfl, HB3.out⟩
  | ok x =>
    rw [hg] at he2
    obtain ⟨v2, rfl, ho2⟩ := he2
    obtain ⟨A2, c2, rfl, hq2⟩ := Own.bs ho2 (gasm_byt hg)
    have HGP := Lib.hid hg
    have HQ2 := Lib.hid hq2
    have HBY := Lib.hid (gasm_byt hg)
    clear hg ho2 hq2
    go_wp2_with fail
    refine (asm_any s (by have := HS.out; omega) w2 hE2.good hE2.pow hE2.wrd hE2.ner hE2.mxl).mono ?_
    intro e w3 hp3
    unfold AsmTo at hp3
    rw [HGP.out] at hp3
    obtain ⟨v3, rfl, ho3, hb3⟩ := hp3
    obtain ⟨A3, c3, rfl, hq3⟩ := Own.bs ho3 HBY.out
    have HB3 := Lib.hid (belowT HB2.out hb3)
    have H3 := Lib.hid (str_of hq3)
    have H2 := Lib.hid (str_of (HQ2.out.next hb3))
    clear hb3 hE2 hq3 ho3
    go_wp2_with fail
    rw [H3.out]
    go_wp2_with fail
    rw [H2.out]
    go_wp2_with fail
    refine (code_any (sa := sa) (w := w3) (c := 0) (s := 0) (v := .nilIface) (HE.out.below HB3.out).good (.inl ⟨rfl, rfl⟩)).mono ?_
    rintro e w5 ⟨rfl, rfl⟩
    go_wp2_with fail
    go_ret
    exact ⟨rfl, HB3.out⟩
end Go.Proofs.YtidmgckmphcegaaGreatDoor
