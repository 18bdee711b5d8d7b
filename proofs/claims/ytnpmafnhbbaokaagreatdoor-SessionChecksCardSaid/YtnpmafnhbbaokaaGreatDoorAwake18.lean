/-
  Awake: its walk.
-/
import Derived.Test.YtnpmafnhbbaokaaGreatDoorSAwake
import Derived.Lib.SlBytesConst
namespace Go.Proofs.YtnpmafnhbbaokaaGreatDoor
open Go Go.RowKit
open Go.ChangeMaps (setBlock)
set_option linter.unusedVariables false
set_option linter.unusedSimpArgs false
set_option maxRecDepth 100000 in
set_option maxHeartbeats 4000000 in
theorem awake_18 {sa : Nat → Addr} {x : Addr} {w : World} (hG : Good w sa) (hx : w.cell? ⟨3, 0, none⟩ = some (sv x)) (hP : Par w) (hS : Stt w) (hF : Frm w) :
    Calls Tryz.prog 4 #[] w fun e w' => e = .returned (.bool true) ∧ Below w.heap.size w w' := by
  have hgl : 3 < w.heap.size := World.block_lt_of_cell? w _ hx
  have GL := Lib.hid (And.intro hG (And.intro hx (And.intro hP (And.intro hS hF))))
  have HSM := Lib.hid (small_18 (w := w))
  clear hG hx hP hS hF
  go_enter Tryz.func4, Tryz.ntmps4
  go_wp2_with fail
  refine HSM.out.mono ?_
  rintro e w0 ⟨rfl, hb0⟩
  have HNW := Lib.hid (snew_any (GL.out.1.below hb0) (GL.out.2.2.1.below hb0) cfS true)
  have HB0 := Lib.hid hb0
  clear hb0 HSM
  go_wp2_with fail
  refine HNW.out.mono ?_
  rintro e w1 ⟨hh, hb1⟩
  obtain ⟨hno, _⟩ | ⟨_, n, rfl, hn, hsn⟩ := hh
  · exact absurd cfS_ok hno
  have HB1 := Lib.hid (belowT HB0.out hb1)
  have hnw : w.heap.size ≤ n := Nat.le_trans HB0.out.size hn
  have HO := Lib.hid (open_1 cfS_ok rfl hsn (fun W hW => by
    have hb := HB1.out.trans (hW.mono hnw)
    exact ⟨(show W.cell? _ = _ from keepA hb GL.out.2.2.2.1), GL.out.2.2.2.2.below hb⟩))
  have hz1 := hsn.sz
  clear hb1 hsn hn HNW
  unfold pt at HO
  unfold pt
  go_wp2_with fail
  refine HO.out.mono ?_
  rintro e w2 ⟨rfl, hb2, hso⟩
  have HB2 := Lib.hid hb2
  have HSO := Lib.hid hso
  have hz2 := hb2.size
  clear hb2 hso HO
  go_upto_region 7 with fail
  obtain ⟨w3, hw3⟩ : ∃ w3, w3 = w2.alloc (.cells abcde 5 (5, 6)) := ⟨_, rfl⟩
  have hb3 : Below w2.heap.size w2 w3 := by rw [hw3]; exact (Below.refl _ _).alloc (Nat.le_refl _) _
  have hp3 : w3.heap[w2.heap.size]? = some (.cells abcde 5 (5, 6)) := by rw [hw3]; exact alloc_is _ rfl
  have HW3 := Lib.hid hw3
  have hso3 : ∃ s ge, SO w3 n s ge cfS := by
    obtain ⟨s, ge, h⟩ := HSO.out
    obtain ⟨r, cap, cur, q1, q2, q3, q4, q5⟩ := h.ln
    exact ⟨s, ge, keepB hb3 h.ouf, keepB hb3 h.out, keepB hb3 h.box, keepB hb3 h.ids, keepB hb3 h.tmp, keepB hb3 h.tab, keepB hb3 h.lnm, ⟨r, cap, cur, keepB hb3 q1, keepB hb3 q2, q3, q4, q5⟩, keepB hb3 h.ent, keepB hb3 h.rbm, keepB hb3 h.rb, keepB hb3 h.sch, keepB hb3 h.rst, keepB hb3 h.str, keepB hb3 h.snd, keepB hb3 h.stg, h.s0, h.e0⟩
  have hz3 := hb3.size
  have HWR := Lib.hid (phase_w hso3 (by omega) hp3)
  have HB3 := Lib.hid ((HB2.out.trans (hb3.mono (by omega))))
  clear hb3 hp3 hw3 hso3
  unfold pt at HWR
  have hcv := Lib.run_convert_bytes_const (P := Tryz.prog) w2 40 5 #[.int .u8 97, .int .u8 98, .int .u8 99, .int .u8 100, .int .u8 101] 5 5 Tryz.underlying40 Tryz.underlying5
  have hsz5 : (#[.int .u8 97, .int .u8 98, .int .u8 99, .int .u8 100, .int .u8 101] : Array Value).size = 5 := rfl
  rw [hsz5] at hcv
  go_wp2_with fail
  have hw3 := HW3.out
  unfold abcde at hw3
  rw [← hw3]
  clear hw3
  refine HWR.out.mono ?_
  rintro e w4 ⟨rfl, h4, hb4⟩
  have HB4 := Lib.hid (HB3.out.trans hb4)
  have H1 := Lib.hid (phase_1 h4 (fun W hW => GL.out.2.2.2.2.below (HB1.out.trans ((HB4.out.trans hW).mono hnw))))
  clear h4 hb4 HWR hcv hsz5
  unfold pt at H1
  go_wp2_with fail
  refine H1.out.mono ?_
  rintro e w5 ⟨rfl, h5, hb5⟩
  have HB5 := Lib.hid (HB4.out.trans hb5)
  have H2 := Lib.hid (phase_d (hv' := 1) (sp' := 3) (l' := 1) (.inl ⟨rfl, rfl, rfl, rfl⟩) h5 (keepA (HB1.out.trans (HB5.out.mono hnw)) GL.out.2.1) (by omega) (by decide) (by decide) (by decide) (by decide) (by decide) (by decide) (by decide))
  clear h5 hb5 H1
  unfold pt at H2
  go_wp2_with fail
  refine H2.out.mono ?_
  rintro e w6 ⟨rfl, h6, hb6⟩
  have HB6 := Lib.hid (HB5.out.trans hb6)
  have H3 := Lib.hid (phase_d (hv' := 0) (sp' := 4) (l' := 0) (.inr ⟨rfl, rfl, rfl, rfl⟩) h6 (keepA (HB1.out.trans (HB6.out.mono hnw)) GL.out.2.1) (by omega) (by decide) (by decide) (by decide) (by decide) (by decide) (by decide) (by decide))
  clear h6 hb6 H2
  unfold pt at H3
  go_wp2_with fail
  refine H3.out.mono ?_
  rintro e w7 ⟨rfl, h7, hb7⟩
  have HB7 := Lib.hid (HB6.out.trans hb7)
  have H4 := Lib.hid (phase_0 h7 (by decide))
  clear h7 hb7 H3
  unfold pt at H4
  go_wp2_with fail
  refine H4.out.mono ?_
  rintro e w8 ⟨rfl, h8, hb8⟩
  have HB8 := Lib.hid (HB7.out.trans hb8)
  have HP8 := Lib.hid h8
  clear h8 hb8 H4
  go_upto_region 11 with fail
  obtain ⟨w9, hw9⟩ : ∃ w9, w9 = w8.alloc (.cells (nums .u8 wantB).toArray 5) := ⟨_, rfl⟩
  have hb9 : Below w8.heap.size w8 w9 := by rw [hw9]; exact (Below.refl _ _).alloc (Nat.le_refl _) _
  have ho9 : Own w9 w8.heap.size (.slice (some ⟨w8.heap.size, 0, none⟩) 40 40) wantB := by rw [hw9]; exact own_new w8 w8.heap.size _ (Nat.le_refl _) (by decide)
  change Code.wp _ _ _ _ (w8.alloc (.cells (nums .u8 wantB).toArray 5))
  rw [← hw9]
  have HT := Lib.hid (phase_t (HP8.out.step (Ch.of_below (L := []) hb9)))
  have K9 := Lib.hid (And.intro hb9 ho9)
  have hz8 := HB8.out.size
  clear hb9 ho9 hw9
  unfold pt at HT
  go_wp2_with fail
  refine HT.out.mono ?_
  rintro e w10 ⟨u, rfl, hu, hb10, hk10⟩
  rw [all_same] at hu
  obtain ⟨Au, cu, hue, hub⟩ := Own.bs hu (by decide)
  subst hue
  have hwb := Own.bs' (hk10 _ _ _ K9.out.2) (by decide)
  have HSAME := Lib.hid (same_18 hub hwb)
  have K10 := Lib.hid hb10
  clear hu hb10 hk10 hub hwb
  go_wp2_with fail
  refine HSAME.out.mono ?_
  rintro e w10 ⟨rfl, rfl⟩
  go_wp2_with fail
  go_ret
  exact ⟨rfl, HB1.out.trans (((HB8.out.trans (K9.out.1.mono (by omega))).trans K10.out).mono hnw)⟩
end Go.Proofs.YtnpmafnhbbaokaaGreatDoor
