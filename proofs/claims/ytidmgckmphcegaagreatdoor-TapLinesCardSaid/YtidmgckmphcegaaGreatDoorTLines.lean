/-
  TapLines, walked: every frame's line, or its error.
-/
import Derived.Test.YtidmgckmphcegaaGreatDoorTCanon
import Derived.Test.YtidmgckmphcegaaGreatDoorTCopied
import Derived.Test.YtidmgckmphcegaaGreatDoorTRTold
namespace Go.Proofs.YtidmgckmphcegaaGreatDoor
open Go.RowKit Go.Proofs.YtidmgckmphcegaaGreatDoorW.PrintWords Go.Proofs.YtidmgckmphcegaaGreatDoorW.PrintLast Go.Proofs.YtidmgckmphcegaaGreatDoor.Px
set_option linter.unusedVariables false
set_option linter.unusedSimpArgs false
set_option maxRecDepth 100000 in
set_option maxHeartbeats 4000000 in
theorem tapLines_walk {sa : Nat → Addr} {w : World} (hE : TE sa w) (h : Hd) (ho : h.Ok) (A : Option Addr) (n c : Nat) (xs : List Int) (hB : Bs w A n c xs) (hn : n ≤ 140737488355328) :
    Calls Tryz.prog 3 #[frm h.ver h.ty h.fl h.st h.ln A n c] w fun e w' => e = .returned (.bool true) ∧ Below w.heap.size w w' := by
  obtain ⟨w1, hw1⟩ : ∃ w1, w1 = w.alloc (.cells #[.int .u8 h.ver, .int .u8 h.ty, .int .u16 h.fl, .int .u32 h.st, .int .u32 h.ln, .slice A n c] 28) := ⟨_, rfl⟩
  have hb1 : Below w.heap.size w w1 := by rw [hw1]; exact (Below.refl _ _).alloc (Nat.le_refl _) _
  have hf1 : w1.heap[w.heap.size]? = some (.cells #[.int .u8 h.ver, .int .u8 h.ty, .int .u16 h.fl, .int .u32 h.st, .int .u32 h.ln, .slice A n c] 28 (0, 0)) := by rw [hw1]; exact alloc_at _ _
  have HE := Lib.hid hE
  have HW1 := Lib.hid hw1
  have HB1 := Lib.hid hb1
  have HF1 := Lib.hid hf1
  have HQ1 := Lib.hid (hB.next hb1)
  have o0 := ho.ver
  have o1 := ho.ty
  have o2 := ho.fl
  have o3 := ho.st
  have o4 := ho.ln
  clear hE hw1 hb1 hf1 hB ho
  go_enter Tryz.func3, Tryz.ntmps3
  go_wp2_with fail
  rw [← HW1.out]
  refine (wakes_any (HE.out.below HB1.out)).mono ?_
  rintro e w2 ⟨rfl, hb2⟩
  have HB2 := Lib.hid (belowT HB1.out hb2)
  have HF2 := Lib.hid (keepB hb2 HF1.out)
  have HQ2 := Lib.hid (HQ1.out.next hb2)
  clear hb2 HW1 HB1 HF1 HQ1
  obtain ⟨a0, a1, a2, a3, a4, a5⟩ := FB.of_blk HF2.out
  go_wp2_with fail
  refine (rline26_any h.ver h.ty h.fl h.st h.ln A n c xs w2 HQ2.out (by omega) (by omega) (by omega) (by omega) (by omega)).mono ?_
  rintro e w3 ⟨rfl, hb3⟩
  have HB3 := Lib.hid (belowT HB2.out hb3)
  have HF3 := Lib.hid (keepB hb3 HF2.out)
  have HQ3 := Lib.hid (HQ2.out.next hb3)
  clear hb3 HB2 HF2 HQ2 a0 a1 a2 a3 a4 a5
  obtain ⟨a0, a1, a2, a3, a4, a5⟩ := FB.of_blk HF3.out
  by_cases hsz : (n : Int) = szF h.ty h.ln
  · rw [if_pos hsz]
    have HSZ := Lib.hid hsz
    clear hsz
    go_wp2_with fail
    refine (copied_any h.ver h.ty h.fl h.st h.ln HQ3.out hn).mono ?_
    rintro e w4 ⟨A4, c4, rfl, hq4, hb4⟩
    have HB4 := Lib.hid (belowT HB3.out hb4)
    have HS4 := Lib.hid hq4
    clear hb4 hq4 HB3 HF3 HQ3 a0 a1 a2 a3 a4 a5
    go_wp2_with fail
    have hE4 := HE.out.below HB4.out
    have hl := line_any h.ver h.ty h.fl h.st h.ln A4 n c4 xs w4 hE4.good hE4.pow hE4.wrd HS4.out.toRd (by omega) (by omega) (by omega) (by omega) (by omega)
    rw [if_pos HSZ.out] at hl
    refine hl.mono ?_
    rintro e w5 ⟨rfl, hb5⟩
    have HB5 := Lib.hid (belowT HB4.out hb5)
    clear hb5 hl hE4 HB4 HS4
    generalize (⟨(lineB ⟨h.ver, h.ty, h.fl, h.st, h.ln⟩ xs).toArray⟩ : ByteArray) = sl
    go_wp2_with fail
    refine (code_any (sa := sa) (w := w5) (c := 0) (s := 0) (v := .nilIface) (HE.out.below HB5.out).good (.inl ⟨rfl, rfl⟩)).mono ?_
    rintro e w5 ⟨rfl, rfl⟩
    go_wp2_with fail
    go_ret
    exact ⟨rfl, HB5.out⟩
  · rw [if_neg hsz]
    have HSZ := Lib.hid hsz
    clear hsz
    go_wp2_with fail
    refine (copied_any h.ver h.ty h.fl h.st h.ln HQ3.out hn).mono ?_
    rintro e w4 ⟨A4, c4, rfl, hq4, hb4⟩
    have HB4 := Lib.hid (belowT HB3.out hb4)
    have HS4 := Lib.hid hq4
    clear hb4 hq4 HB3 HF3 HQ3 a0 a1 a2 a3 a4 a5
    go_wp2_with fail
    have hE4 := HE.out.below HB4.out
    have hl := line_any h.ver h.ty h.fl h.st h.ln A4 n c4 xs w4 hE4.good hE4.pow hE4.wrd HS4.out.toRd (by omega) (by omega) (by omega) (by omega) (by omega)
    rw [if_neg HSZ.out] at hl
    refine hl.mono ?_
    rintro e w5 ⟨rfl, hb5⟩
    have HB5 := Lib.hid (belowT HB4.out hb5)
    clear hb5 hl hE4 HB4 HS4
    go_wp2_with fail
    refine (code_any (sa := sa) (w := w5) (c := 15) (s := 0) (v := sv (sa 15)) (HE.out.below HB5.out).good (EV_c (.inr (.inr rfl)))).mono ?_
    rintro e w5 ⟨rfl, rfl⟩
    go_wp2_with fail
    go_ret
    exact ⟨rfl, HB5.out⟩
end Go.Proofs.YtidmgckmphcegaaGreatDoor
