/-
  FeedAnswers, walked.
-/
import Derived.Test.YtfddhipdedcacaaDoorMH
import Derived.Test.YtfddhipdedcacaaDoorMG
namespace Go.Proofs.YtfddhipdedcacaaDoor
open Go.RowKit Go.Proofs.YtfddhipdedcacaaDoorW.PrintWords Go.Proofs.YtfddhipdedcacaaDoorW.PrintLast Go.Proofs.YtfddhipdedcacaaDoorW.PrintMore Go.Proofs.YtfddhipdedcacaaDoor.PFeedPieces
set_option linter.unusedVariables false
set_option linter.unusedSimpArgs false
/-- How many bytes the first j pieces have. -/
def totj (ps : List (List Int)) (j : Nat) : Nat := ((ps.take j).map List.length).sum
theorem totj_succ {ps : List (List Int)} {j : Nat} (h : j < ps.length) : totj ps (j + 1) = totj ps j + (ps.getD j []).length := by
  unfold totj
  rw [List.take_succ_eq_append_getElem h, List.map_append, List.sum_append]
  simp [List.getD_eq_getElem?_getD, List.getElem?_eq_getElem h]
theorem totj_le (ps : List (List Int)) (j : Nat) : totj ps j ≤ (ps.map List.length).sum := by
  unfold totj
  have h : (ps.map List.length).sum = ((ps.take j).map List.length).sum + ((ps.drop j).map List.length).sum := by
    rw [← List.sum_append, ← List.map_append, List.take_append_drop]
  omega
/-- What stays through the law. -/
structure FAns (sa : Nat → Addr) (A : Option Addr) (n c : Nat) (ps : List (List Int)) (w : World) : Prop where
  pcs : Pcs w A n c ps
  good : Good w sa
  law : Lawful w
  ert : ErT w
theorem FAns.next {sa : Nat → Addr} {A : Option Addr} {n c : Nat} {ps : List (List Int)} {w w' : World} (h : FAns sa A n c ps w) (hb : Below w.heap.size w w') : FAns sa A n c ps w' :=
  ⟨h.pcs.next hb, h.good.below hb, h.law.below hb, keepA hb h.ert⟩
/-- The loop's state of a decoder: zs is what the reference keeps. -/
structure FStep (sa : Nat → Addr) (w1 wr : World) (g gm : Nat) (most : Int) (ps : List (List Int)) (j : Nat) (zs : List Int) (v : Value) (b : Nat) (M : Option Addr) (nm cm : Nat) : Prop where
  below : Below w1.heap.size w1 wr
  dec : DecV sa w1 wr g most zs v b
  box : wr.heap[gm]? = some (rdec most M nm cm)
  fed : FBs wr (fun k => k ≠ g ∧ some k ≠ v.ownBlock ∧ k ≠ gm) M nm cm zs
  len : zs.length ≤ totj ps j
  gm0 : w1.heap.size ≤ gm
theorem FStep.gm_ne {sa : Nat → Addr} {w1 wr : World} {g gm j b nm cm : Nat} {most : Int} {ps : List (List Int)} {zs : List Int} {v : Value} {M : Option Addr} (h : FStep sa w1 wr g gm most ps j zs v b M nm cm) : gm ≠ g ∧ some gm ≠ v.ownBlock := by
  have hb := h.box
  refine ⟨fun e => ?_, fun e => ?_⟩
  · subst e
    by_cases hc : codeX most zs = 0
    · rw [(h.dec.live hc).1] at hb; simp at hb
    · rw [(h.dec.dead hc).1] at hb; simp at hb
  · by_cases hc : codeX most zs = 0
    · obtain ⟨cs, h1⟩ := own_typed (h.dec.live hc).2 gm e.symm
      rw [h1] at hb; simp at hb
    · rw [(h.dec.dead hc).2.2] at e; simp [Value.ownBlock] at e
theorem FStep.start {sa : Nat → Addr} {w1 w3 : World} {g : Nat} {most : Int} {ps : List (List Int)} (hb : Below w1.heap.size w1 w3) (hd : DecV sa w1 w3 g most [] (.slice none 0 0) 0) : FStep sa w1 (w3.alloc (.cells #[.int .i64 most, .slice none 0 0] 53)) g w3.heap.size most ps 0 [] (.slice none 0 0) 0 none 0 0 :=
  ⟨hb.alloc hb.size _, hd.below ((Below.refl _ _).alloc (Nat.le_refl _) _), alloc_at _ _, fun _ _ => ⟨rfl, by omega, by omega, (fun x hx => by cases hx), fun _ => ⟨rfl, rfl⟩, fun h => absurd h (by omega)⟩, by simp, hb.size⟩
set_option maxRecDepth 100000 in
set_option maxHeartbeats 4000000 in
theorem feedAnswers_walk {sa : Nat → Addr} {w : World} (hG : Good w sa) (hL : Lawful w) (hT : ErT w) (most : Int) (A : Option Addr) (n c : Nat) (ps : List (List Int)) (hP : Pcs w A n c ps) (hs : (ps.map List.length).sum + n ≤ 100000000) :
    Calls Tryd.prog 9 #[.int .i64 most, .slice A n c] w fun e w' => e = .returned (.bool true) ∧ Below w.heap.size w w' := by
  have hS : FAns sa A n c ps w := ⟨hP, hG, hL, hT⟩
  have HU := Lib.hid (show Up w (FAns sa A n c ps) from fun W hb => hS.next hb)
  have hf := fixed_any hG hL hT
  obtain rfl := hP.len
  have hcap := hP.cap
  have HSZ := Lib.hid hs
  have hpn : ps.length ≤ 100000000 := by omega
  clear hS hP hG hL hT hs
  go_enter Tryd.func9, Tryd.ntmps9
  go_wp2_with fail
  refine hf.mono ?_
  rintro e w1 ⟨rfl, hb1⟩
  have HB1 := Lib.hid hb1
  clear hb1 hf
  by_cases hmm : most < 1 ∨ 65536 < most
  · go_wp2_with fail
    refine (new_no (HU.out.at_ HB1.out).good most hmm).mono ?_
    rintro e w2 ⟨rfl, hd2⟩
    have HB2 := Lib.hid (hd2.below w1.heap.size)
    clear hd2
    go_wp2_with fail
    refine (rnew_no most _ hmm).mono ?_
    rintro e w3 ⟨rfl, hb3⟩
    have HB3 := Lib.hid (belowT HB2.out hb3)
    clear hb3
    have HB4 := Lib.hid (HB3.out.alloc HB3.out.size (.cells #[.int .i64 0, .slice none 0 0] 53))
    have HM4 := Lib.hid (alloc_at w3 (.cells #[.int .i64 0, .slice none 0 0] 53))
    have hz3 : w1.heap.size ≤ w3.heap.size := HB3.out.size
    go_wp2_with fail
    refine (code_any (HU.out.at_ (belowT HB1.out HB4.out)).good (.inr (.inl ⟨by omega, by omega, rfl⟩) : EV sa _ 2 0 (sv (sa 2)))).mono ?_
    rintro e w4 ⟨rfl, rfl⟩
    go_wp2_with fail
    go_loopw [42] (fun jj wr => ∃ (j : Nat), jj = .int .i64 j ∧ j ≤ ps.length ∧ Hid (Below w1.heap.size w1 wr) ∧ Hid (wr.heap[w3.heap.size]? = some (rdec 0 none 0 0))) (fun jj _ => ps.length - (intOf jj).toNat)
    case atStart => exact ⟨0, rfl, by omega, HB4, HM4⟩
    case round =>
      obtain ⟨j, rfl, hj, HB, HM⟩ := hrel
      by_cases hlt : j < ps.length
      · have hd1 : decide ((j : Int) < ps.length) = true := by simp; omega
        have hk0 : (0 : Int) ≤ (j : Int) := by omega
        have hk1 : (j : Int) < (ps.length : Int) := by omega
        have HUr := Lib.hid (HU.out.next (belowT HB1.out HB.out))
        obtain ⟨bp, op, rfl, hrd⟩ := HUr.out.now.pcs.rd (by omega)
        obtain ⟨Ap, cp, hcell, hBp⟩ := hrd j hlt
        obtain ⟨ys, hys⟩ : ∃ ys, ys = ps.getD j [] := ⟨_, rfl⟩
        rw [← hys] at hcell hBp
        have HBP := Lib.hid hBp
        have HYX := Lib.hid hBp.byt
        have hbd : ys.length ≤ 100000000 := by
          have h1 := totj_succ hlt
          have h2 := totj_le ps (j + 1)
          have h4 := HSZ.out
          rw [← hys] at h1
          omega
        have m0 : wr.cell? ⟨w3.heap.size, 0, none⟩ = some (.int .i64 0) := cell_blk HM.out rfl
        have m1' : wr.cell? ⟨w3.heap.size, 1, none⟩ = some (.slice none 0 0) := cell_blk HM.out rfl
        clear hrd hys hBp
        go_wp2_with fail
        refine (rfeed_zero _).mono ?_
        rintro e w4 ⟨rfl, hb4⟩
        have hB4 := HBP.out.next hb4
        have HBP4 := Lib.hid hB4
        have HBr4 := Lib.hid hb4
        have HM4' := Lib.hid (keepB hb4 HM.out)
        clear hb4 hB4 m0 m1'
        go_upto_region 11 with fail
        obtain ⟨w5, hw5⟩ : ∃ w5, w5 = w4.alloc (.cells #[.int .i64 0, .slice none 0 0] 53) := ⟨_, rfl⟩
        have hb45 : Below w4.heap.size w4 w5 := by rw [hw5]; exact (Below.refl _ _).alloc (Nat.le_refl _) _
        have hn5 : w5.heap[w4.heap.size]? = some (rdec 0 none 0 0) := by rw [hw5]; exact alloc_at _ _
        rw [← hw5]
        have HB5 := Lib.hid (belowT HB.out (belowT HBr4.out hb45))
        have HB45 := Lib.hid hb45
        have HN5 := Lib.hid hn5
        clear hw5 hb45 hn5
        go_wp2_with (at_builtin; go_loud (refine append_at (w0 := w1) rfl _ _ rfl (.slice (some ⟨w5.heap.size, 0, none⟩) 0 0) [] rfl (own_new w5 w1.heap.size [] HB5.out.size (by simp)) Ap ys.length cp ys rfl ((HBP4.out.next HB45.out).next ((Below.refl _ _).alloc (Nat.le_refl _) _)) (by simp <;> omega) (HB5.out.alloc HB5.out.size _) ?_; intro va wa hoa hba2 hga _; rw [List.nil_append] at hoa; obtain ⟨Aa, ca, rfl, hqa⟩ := Own.bs hoa HYX.out; have hbW : Below w5.heap.size w5 wa := ((Below.refl _ _).alloc (Nat.le_refl _) _).grown hga (by simp) (fun k hk => by simp [Value.ownBlock] at hk; omega); have HB4a := Lib.hid (belowT HB45.out hbW); have HNa := Lib.hid (keepB hbW HN5.out); have HBa := Lib.hid hba2; clear hoa hba2 hga hqa hbW))
        refine (feed_nilp (HU.out.at_ (belowT HB1.out HBa.out)).good _).mono ?_
        rintro e w6 ⟨rfl, hb6⟩
        have HB6 := Lib.hid (belowT HBa.out hb6)
        have hm6 := keepB hb6 (keepB HB4a.out HM4'.out)
        have hn6 := keepB hb6 HNa.out
        have HM6 := Lib.hid hm6
        have c0 : w6.cell? ⟨w4.heap.size, 0, none⟩ = some (.int .i64 0) := cell_blk hn6 rfl
        have c1 : w6.cell? ⟨w4.heap.size, 1, none⟩ = some (.slice none 0 0) := cell_blk hn6 rfl
        have k0 : w6.cell? ⟨w3.heap.size, 0, none⟩ = some (.int .i64 0) := cell_blk hm6 rfl
        have k1 : w6.cell? ⟨w3.heap.size, 1, none⟩ = some (.slice none 0 0) := cell_blk hm6 rfl
        have k2 : ∀ i, w6.frozen? ⟨w3.heap.size, i, none⟩ = false := fun i => free_blk hm6
        clear hb6 hm6 hn6
        go_upto_region 13 with fail
        obtain ⟨w7, hw7⟩ : ∃ w7, w7 = (w6.setCell ⟨w3.heap.size, 0, none⟩ (.int .i64 0)).setCell ⟨w3.heap.size, 1, none⟩ (.slice none 0 0) := ⟨_, rfl⟩
        have hm7 : w7.heap[w3.heap.size]? = some (rdec 0 none 0 0) := by rw [hw7]; exact set_blk _ (set_blk _ HM6.out)
        have hb7 : Below w1.heap.size w1 w7 := by rw [hw7]; exact (HB6.out.setCell hz3 _).setCell hz3 _
        rw [← hw7]
        have HB7 := Lib.hid hb7
        have HM7 := Lib.hid hm7
        have k0' : w7.cell? ⟨w3.heap.size, 0, none⟩ = some (.int .i64 0) := cell_blk hm7 rfl
        have k1' : w7.cell? ⟨w3.heap.size, 1, none⟩ = some (.slice none 0 0) := cell_blk hm7 rfl
        clear hm7 hb7 hw7 c0 c1 k0 k1 k2
        go_wp2_with fail
        refine told_zero.mono ?_
        rintro e w8 ⟨rfl, hb8⟩
        obtain ⟨w9, hw9⟩ : ∃ w9, w9 = w8.alloc (.cells #[.slice none 0 0, .int .i64 0, .int .i64 0, .int .u32 0] 66) := ⟨_, rfl⟩
        have hb79 : Below w7.heap.size w7 w9 := by rw [hw9]; exact hb8.alloc hb8.size _
        have ht9 : w9.heap[w8.heap.size]? = some (rtold (.slice none 0 0) 0 0 0) := by rw [hw9]; exact alloc_at _ _
        have HB79 := Lib.hid hb79
        have HT9 := Lib.hid ht9
        have HW9 := Lib.hid hw9
        clear hb8 hb79 ht9 hw9 k0' k1'
        go_wp2_with fail
        rw [← HW9.out]
        refine (sameFrames_any (fs := []) rfl (Kd.F_nil _ _ _) (Kd.F_nil _ _ _) (by simp)).mono ?_
        rintro e wb ⟨rfl, hbb⟩
        have hb7b := belowT HB79.out hbb
        have HSb := Lib.hid hb7b
        have htb := keepB hbb HT9.out
        have HTB := Lib.hid htb
        have y3 : wb.cell? ⟨w8.heap.size, 3, none⟩ = some (.int .u32 0) := cell_blk htb rfl
        have HU7 := Lib.hid (HU.out.next (belowT HB1.out HB7.out))
        clear hbb hb7b htb
        go_wp2_with fail
        refine (fails_one (HU7.out.at_ HSb.out).good 0).mono ?_
        rintro e wc ⟨rfl, hbc⟩
        have HSc := Lib.hid (belowT HSb.out hbc)
        have htc := keepB hbc HTB.out
        have hmc := keepB HSc.out HM7.out
        have x0 : wc.cell? ⟨w3.heap.size, 0, none⟩ = some (.int .i64 0) := cell_blk hmc rfl
        have x1 : wc.cell? ⟨w3.heap.size, 1, none⟩ = some (.slice none 0 0) := cell_blk hmc rfl
        have x2 : wc.cell? ⟨w8.heap.size, 2, none⟩ = some (.int .i64 0) := cell_blk htc rfl
        have x3 : wc.cell? ⟨w8.heap.size, 3, none⟩ = some (.int .u32 0) := cell_blk htc rfl
        clear hbc htc hmc y3
        go_wp2_with fail
        refine start_ (n := 22) (S := fun w' => w'.cell? ⟨w3.heap.size, 0, none⟩ = some (.int .i64 0) ∧ w'.cell? ⟨w3.heap.size, 1, none⟩ = some (.slice none 0 0) ∧ w'.cell? ⟨w8.heap.size, 2, none⟩ = some (.int .i64 0) ∧ w'.cell? ⟨w8.heap.size, 3, none⟩ = some (.int .u32 0) ∧ Hid (Below wc.heap.size wc w')) (ds := []) #[false, false, false, false, false, false, false, false, false, false, false, false, false, false, false, false, false, false, false, false, false, false] (by kernel_rfl) rfl rfl (⟨x0, x1, x2, x3, Lib.hid (Below.refl _ _).drew⟩) (fun hHeld => ?_)
        refine pure_ (i := 0) (N := some 76) (v := ?_) (a' := ?_) #[true, false, false, false, false, false, false, false, false, false, false, false, false, false, false, false, false, false, false, false, false, false] rfl rfl (by kernel_rfl) (fun _ _ _ h => h) (Or.inl ⟨by rfl, ?_⟩) ?_ ?_
        rotate_left
        · intro w'
          go_simp
          with_reducible rfl
        rotate_left
        · simp only [Act.put, List.setIfInBounds_toArray, List.set_cons_zero, List.set_cons_succ, i64_w, i32_w]
          rfl
        refine take_ (i := 2) (N := some 78) (v := ?_) (a' := ?_) #[true, false, true, false, false, false, false, false, false, false, false, false, false, false, false, false, false, false, false, false, false, false] rfl rfl (by kernel_rfl) (fun _ _ _ h => h) (Or.inl ⟨by rfl, ?_⟩) hHeld ?_ ?_
        rotate_left
        · rintro w' ⟨s0, s1, s2, s3, s4⟩
          go_simp
          with_reducible rfl
        rotate_left
        · simp only [Act.put, List.setIfInBounds_toArray, List.set_cons_zero, List.set_cons_succ, i64_w, i32_w]
          rfl
        refine one_ (i := 1) (N := some 77) #[true, true, true, false, false, false, false, false, false, false, false, false, false, false, false, false, false, false, false, false, false, false] rfl rfl (by kernel_rfl) (by decide) (fun K hK => ?_)
        refine goes_ Tryd.func22 (by kernel_rfl) rfl #[.pointer none] (by rfl) rfl rfl (by simp only [List.map_toArray, List.map_cons, List.map_nil]; rfl) ?_
        with_reducible refine (held_nil).mono ?_
        rintro e wd ⟨rfl, rfl⟩
        refine ⟨_, rfl, ?_⟩
        refine hK.out _ _ (hHeld) (fun hHeld => ?_)
        clear hK K
        refine norm_ (a' := ?_) ?_ ?_
        rotate_left
        · show Act.put _ (some 77) _ = _
          simp only [Act.put, List.setIfInBounds_toArray, List.set_cons_zero, List.set_cons_succ, i64_w, i32_w]
          rfl
        refine one_ (i := 3) (N := some 79) #[true, true, true, true, false, false, false, false, false, false, false, false, false, false, false, false, false, false, false, false, false, false] rfl rfl (by kernel_rfl) (by decide) (fun K hK => ?_)
        refine goes_ Tryd.func35 (by kernel_rfl) rfl #[rnil] (by rfl) rfl rfl (by simp only [List.map_toArray, List.map_cons, List.map_nil]; rfl) ?_
        with_reducible refine (rheld_zero).mono ?_
        rintro e wd ⟨rfl, hbd⟩
        refine ⟨_, rfl, ?_⟩
        have HBD := Lib.hid hbd
        clear hbd
        refine hK.out _ _ (⟨keepA HBD.out hHeld.1, keepA HBD.out hHeld.2.1, keepA HBD.out hHeld.2.2.1, keepA HBD.out hHeld.2.2.2.1, Lib.hid (belowT hHeld.2.2.2.2.out HBD.out)⟩) (fun hHeld => ?_)
        clear hK K
        refine norm_ (a' := ?_) ?_ ?_
        rotate_left
        · show Act.put _ (some 79) _ = _
          simp only [Act.put, List.setIfInBounds_toArray, List.set_cons_zero, List.set_cons_succ, i64_w, i32_w]
          rfl
        refine pure_ (i := 4) (N := some 80) (v := ?_) (a' := ?_) #[true, true, true, true, true, false, false, false, false, false, false, false, false, false, false, false, false, false, false, false, false, false] rfl rfl (by kernel_rfl) (fun _ _ _ h => h) (Or.inl ⟨by rfl, ?_⟩) ?_ ?_
        rotate_left
        · intro w'
          go_simp
          with_reducible rfl
        rotate_left
        · simp only [Act.put, List.setIfInBounds_toArray, List.set_cons_zero, List.set_cons_succ, i64_w, i32_w]
          rfl
        refine pure_ (i := 5) (N := some 81) (v := ?_) (a' := ?_) #[true, true, true, true, true, true, false, false, false, false, false, false, false, false, false, false, false, false, false, false, false, false] rfl rfl (by kernel_rfl) (fun _ _ _ h => h) (Or.inl ⟨by rfl, ?_⟩) ?_ ?_
        rotate_left
        · intro w'
          go_simp
          with_reducible rfl
        rotate_left
        · simp only [Act.put, List.setIfInBounds_toArray, List.set_cons_zero, List.set_cons_succ, i64_w, i32_w]
          rfl
        refine pure_ (i := 6) (N := some 82) (v := ?_) (a' := ?_) #[true, true, true, true, true, true, true, false, false, false, false, false, false, false, false, false, false, false, false, false, false, false] rfl rfl (by kernel_rfl) (fun _ _ _ h => h) (Or.inl ⟨by rfl, ?_⟩) ?_ ?_
        rotate_left
        · intro w'
          go_simp
          with_reducible rfl
        rotate_left
        · simp only [Act.put, List.setIfInBounds_toArray, List.set_cons_zero, List.set_cons_succ, i64_w, i32_w]
          rfl
        refine take_ (i := 8) (N := some 84) (v := ?_) (a' := ?_) #[true, true, true, true, true, true, true, false, true, false, false, false, false, false, false, false, false, false, false, false, false, false] rfl rfl (by kernel_rfl) (fun _ _ _ h => h) (Or.inl ⟨by rfl, ?_⟩) hHeld ?_ ?_
        rotate_left
        · rintro w' ⟨s0, s1, s2, s3, s4⟩
          go_simp
          with_reducible rfl
        rotate_left
        · simp only [Act.put, List.setIfInBounds_toArray, List.set_cons_zero, List.set_cons_succ, i64_w, i32_w]
          rfl
        refine one_ (i := 7) (N := some 83) #[true, true, true, true, true, true, true, true, true, false, false, false, false, false, false, false, false, false, false, false, false, false] rfl rfl (by kernel_rfl) (by decide) (fun K hK => ?_)
        refine goes_ Tryd.func23 (by kernel_rfl) rfl #[.pointer none] (by rfl) rfl rfl (by simp only [List.map_toArray, List.map_cons, List.map_nil]; rfl) ?_
        with_reducible refine (wants_nil).mono ?_
        rintro e wd ⟨rfl, rfl⟩
        refine ⟨_, rfl, ?_⟩
        refine hK.out _ _ (hHeld) (fun hHeld => ?_)
        clear hK K
        refine norm_ (a' := ?_) ?_ ?_
        rotate_left
        · show Act.put _ (some 83) _ = _
          simp only [Act.put, List.setIfInBounds_toArray, List.set_cons_zero, List.set_cons_succ, i64_w, i32_w]
          rfl
        refine one_ (i := 9) (N := some 85) #[true, true, true, true, true, true, true, true, true, true, false, false, false, false, false, false, false, false, false, false, false, false] rfl rfl (by kernel_rfl) (by decide) (fun K hK => ?_)
        refine goes_ Tryd.func36 (by kernel_rfl) rfl #[rnil] (by rfl) rfl rfl (by simp only [List.map_toArray, List.map_cons, List.map_nil]; rfl) ?_
        with_reducible refine (rwants_zero).mono ?_
        rintro e wd ⟨rfl, hbd⟩
        refine ⟨_, rfl, ?_⟩
        have HBD := Lib.hid hbd
        clear hbd
        refine hK.out _ _ (⟨keepA HBD.out hHeld.1, keepA HBD.out hHeld.2.1, keepA HBD.out hHeld.2.2.1, keepA HBD.out hHeld.2.2.2.1, Lib.hid (belowT hHeld.2.2.2.2.out HBD.out)⟩) (fun hHeld => ?_)
        clear hK K
        refine norm_ (a' := ?_) ?_ ?_
        rotate_left
        · show Act.put _ (some 85) _ = _
          simp only [Act.put, List.setIfInBounds_toArray, List.set_cons_zero, List.set_cons_succ, i64_w, i32_w]
          rfl
        refine pure_ (i := 10) (N := some 86) (v := ?_) (a' := ?_) #[true, true, true, true, true, true, true, true, true, true, true, false, false, false, false, false, false, false, false, false, false, false] rfl rfl (by kernel_rfl) (fun _ _ _ h => h) (Or.inl ⟨by rfl, ?_⟩) ?_ ?_
        rotate_left
        · intro w'
          go_simp
          with_reducible rfl
        rotate_left
        · simp only [Act.put, List.setIfInBounds_toArray, List.set_cons_zero, List.set_cons_succ, i64_w, i32_w]
          rfl
        refine pure_ (i := 11) (N := some 87) (v := ?_) (a' := ?_) #[true, true, true, true, true, true, true, true, true, true, true, true, false, false, false, false, false, false, false, false, false, false] rfl rfl (by kernel_rfl) (fun _ _ _ h => h) (Or.inl ⟨by rfl, ?_⟩) ?_ ?_
        rotate_left
        · intro w'
          go_simp
          with_reducible rfl
        rotate_left
        · simp only [Act.put, List.setIfInBounds_toArray, List.set_cons_zero, List.set_cons_succ, i64_w, i32_w]
          rfl
        refine pure_ (i := 12) (N := some 88) (v := ?_) (a' := ?_) #[true, true, true, true, true, true, true, true, true, true, true, true, true, false, false, false, false, false, false, false, false, false] rfl rfl (by kernel_rfl) (fun _ _ _ h => h) (Or.inl ⟨by rfl, ?_⟩) ?_ ?_
        rotate_left
        · intro w'
          go_simp
          with_reducible rfl
        rotate_left
        · simp only [Act.put, List.setIfInBounds_toArray, List.set_cons_zero, List.set_cons_succ, i64_w, i32_w]
          rfl
        refine pure_ (i := 13) (N := some 89) (v := ?_) (a' := ?_) #[true, true, true, true, true, true, true, true, true, true, true, true, true, true, false, false, false, false, false, false, false, false] rfl rfl (by kernel_rfl) (fun _ _ _ h => h) (Or.inl ⟨by rfl, ?_⟩) ?_ ?_
        rotate_left
        · intro w'
          go_simp
          with_reducible rfl
        rotate_left
        · simp only [Act.put, List.setIfInBounds_toArray, List.set_cons_zero, List.set_cons_succ, i64_w, i32_w]
          rfl
        refine pure_ (i := 15) (N := some 91) (v := ?_) (a' := ?_) #[true, true, true, true, true, true, true, true, true, true, true, true, true, true, false, true, false, false, false, false, false, false] rfl rfl (by kernel_rfl) (fun _ _ _ h => h) (Or.inl ⟨by rfl, ?_⟩) ?_ ?_
        rotate_left
        · intro w'
          go_simp
          with_reducible rfl
        rotate_left
        · simp only [Act.put, List.setIfInBounds_toArray, List.set_cons_zero, List.set_cons_succ, i64_w, i32_w]
          rfl
        refine pure_ (i := 17) (N := some 93) (v := ?_) (a' := ?_) #[true, true, true, true, true, true, true, true, true, true, true, true, true, true, false, true, false, true, false, false, false, false] rfl rfl (by kernel_rfl) (fun _ _ _ h => h) (Or.inl ⟨by rfl, ?_⟩) ?_ ?_
        rotate_left
        · intro w'
          go_simp
          with_reducible rfl
        rotate_left
        · simp only [Act.put, List.setIfInBounds_toArray, List.set_cons_zero, List.set_cons_succ, i64_w, i32_w]
          rfl
        refine take_ (i := 16) (N := some 92) (v := ?_) (a' := ?_) #[true, true, true, true, true, true, true, true, true, true, true, true, true, true, false, true, true, true, false, false, false, false] rfl rfl (by kernel_rfl) (fun _ _ _ h => h) (Or.inl ⟨by rfl, ?_⟩) hHeld ?_ ?_
        rotate_left
        · rintro w' ⟨s0, s1, s2, s3, s4⟩
          go_simp
          with_reducible rfl
        rotate_left
        · simp only [Act.put, List.setIfInBounds_toArray, List.set_cons_zero, List.set_cons_succ, i64_w, i32_w]
          rfl
        refine take_ (i := 18) (N := some 94) (v := ?_) (a' := ?_) #[true, true, true, true, true, true, true, true, true, true, true, true, true, true, false, true, true, true, true, false, false, false] rfl rfl (by kernel_rfl) (fun _ _ _ h => h) (Or.inl ⟨by rfl, ?_⟩) hHeld ?_ ?_
        rotate_left
        · rintro w' ⟨s0, s1, s2, s3, s4⟩
          go_simp
          with_reducible rfl
        rotate_left
        · simp only [Act.put, List.setIfInBounds_toArray, List.set_cons_zero, List.set_cons_succ, i64_w, i32_w]
          rfl
        refine one_ (i := 14) (N := some 90) #[true, true, true, true, true, true, true, true, true, true, true, true, true, true, true, true, true, true, true, false, false, false] rfl rfl (by kernel_rfl) (by decide) (fun K hK => ?_)
        refine goes_ Tryd.func24 (by kernel_rfl) rfl #[.pointer none] (by rfl) rfl rfl (by simp only [List.map_toArray, List.map_cons, List.map_nil]; rfl) ?_
        with_reducible refine (err_nilp).mono ?_
        rintro e wd ⟨rfl, rfl⟩
        refine ⟨_, rfl, ?_⟩
        refine hK.out _ _ (hHeld) (fun hHeld => ?_)
        clear hK K
        refine norm_ (a' := ?_) ?_ ?_
        rotate_left
        · show Act.put _ (some 90) _ = _
          simp only [Act.put, List.setIfInBounds_toArray, List.set_cons_zero, List.set_cons_succ, i64_w, i32_w]
          rfl
        refine one_ (i := 19) (N := some 95) #[true, true, true, true, true, true, true, true, true, true, true, true, true, true, true, true, true, true, true, true, false, false] rfl rfl (by kernel_rfl) (by decide) (fun K hK => ?_)
        refine goes_ Tryd.func38 (by kernel_rfl) rfl #[.nilIface, .int .i64 0, .int .u32 0] (by rfl) rfl rfl (by simp only [List.map_toArray, List.map_cons, List.map_nil]; rfl) ?_
        with_reducible refine (fails_nil 0).mono ?_
        rintro e wd ⟨rfl, hbd⟩
        refine ⟨_, rfl, ?_⟩
        have HBD := Lib.hid hbd
        clear hbd
        refine hK.out _ _ (⟨keepA HBD.out hHeld.1, keepA HBD.out hHeld.2.1, keepA HBD.out hHeld.2.2.1, keepA HBD.out hHeld.2.2.2.1, Lib.hid (belowT hHeld.2.2.2.2.out HBD.out)⟩) (fun hHeld => ?_)
        clear hK K
        refine norm_ (a' := ?_) ?_ ?_
        rotate_left
        · show Act.put _ (some 95) _ = _
          simp only [Act.put, List.setIfInBounds_toArray, List.set_cons_zero, List.set_cons_succ, i64_w, i32_w]
          rfl
        refine pure_ (i := 20) (N := some 96) (v := ?_) (a' := ?_) #[true, true, true, true, true, true, true, true, true, true, true, true, true, true, true, true, true, true, true, true, true, false] rfl rfl (by kernel_rfl) (fun _ _ _ h => h) (Or.inl ⟨by rfl, ?_⟩) ?_ ?_
        rotate_left
        · intro w'
          go_simp
          with_reducible rfl
        rotate_left
        · simp only [Act.put, List.setIfInBounds_toArray, List.set_cons_zero, List.set_cons_succ, i64_w, i32_w]
          rfl
        refine pure_ (i := 21) (N := some 97) (v := ?_) (a' := ?_) #[true, true, true, true, true, true, true, true, true, true, true, true, true, true, true, true, true, true, true, true, true, true] rfl rfl (by kernel_rfl) (fun _ _ _ h => h) (Or.inl ⟨by rfl, ?_⟩) ?_ ?_
        rotate_left
        · intro w'
          go_simp
          with_reducible rfl
        rotate_left
        · simp only [Act.put, List.setIfInBounds_toArray, List.set_cons_zero, List.set_cons_succ, i64_w, i32_w]
          rfl
        refine done_ (by kernel_rfl) ?_
        have HBe := Lib.hid (belowT HSc.out hHeld.2.2.2.2.out)
        clear hHeld x0 x1 x2 x3
        go_wp2_with fail
        go_roundw
        case rel => exact ⟨j + 1, by go_num, by omega, Lib.hid (belowT HB7.out HBe.out), Lib.hid (keepB HBe.out HM7.out)⟩
        case measure => simp [intOf]; omega
      · have hd1 : decide ((j : Int) < ps.length) = false := by simp; omega
        go_wp2_with fail
        go_ret
        exact ⟨rfl, belowT HB1.out HB.out⟩
  · have m1 : 1 ≤ most := by omega
    have m2 : most ≤ 65536 := by omega
    go_wp2_with fail
    refine (new_dec sa (w0 := w1) most m1 m2).mono ?_
    rintro e w2 ⟨rfl, hd2, hb2⟩
    have HD2 := Lib.hid hd2
    have HB2 := Lib.hid hb2
    clear hd2 hb2
    have g0 : w1.heap.size < w2.heap.size := HD2.out.glt
    go_wp2_with fail
    refine (rnew_yes most _ m1 m2).mono ?_
    rintro e w3 ⟨rfl, hb3⟩
    have HB3 := Lib.hid (belowT HB2.out hb3)
    have HD3 := Lib.hid (HD2.out.below hb3)
    clear hb3 HD2
    go_wp2_with fail
    refine (code_nil _).mono ?_
    rintro e w4 ⟨rfl, rfl⟩
    have HS0 := Lib.hid (FStep.start (ps := ps) HB3.out HD3.out)
    have hz3 : w1.heap.size ≤ w3.heap.size := HB3.out.size
    have hgz : w1.heap.size < w3.heap.size := HD3.out.glt
    clear HB3 HD3 HB2
    go_wp2_with fail
    go_loopw [42] (fun jj wr => ∃ (j : Nat) (zs : List Int) (v : Value) (b : Nat) (M : Option Addr) (nm cm : Nat), jj = .int .i64 j ∧ j ≤ ps.length ∧ Hid (FStep sa w1 wr w1.heap.size w3.heap.size most ps j zs v b M nm cm)) (fun jj _ => ps.length - (intOf jj).toNat)
    case atStart => exact ⟨0, [], _, 0, none, 0, 0, rfl, by omega, HS0⟩
    case round =>
      obtain ⟨j, zs, v, b, M, nm, cm, rfl, hj, HS⟩ := hrel
      by_cases hlt : j < ps.length
      · have hd1 : decide ((j : Int) < ps.length) = true := by simp; omega
        have hk0 : (0 : Int) ≤ (j : Int) := by omega
        have hk1 : (j : Int) < (ps.length : Int) := by omega
        have HUr := Lib.hid (HU.out.next (belowT HB1.out HS.out.below))
        obtain ⟨bp, op, rfl, hrd⟩ := HUr.out.now.pcs.rd (by omega)
        obtain ⟨Ap, cp, hcell, hBp⟩ := hrd j hlt
        obtain ⟨ys, hys⟩ : ∃ ys, ys = ps.getD j [] := ⟨_, rfl⟩
        rw [← hys] at hcell hBp
        have HY := Lib.hid hys
        have HBP := Lib.hid hBp
        have hnm : zs.length = nm := HS.out.fed.now.len
        have hbd : nm + ys.length ≤ 100000000 := by
          have h1 := totj_succ hlt
          have h2 := totj_le ps (j + 1)
          have h3 := HS.out.len
          have h4 := HSZ.out
          rw [← hys] at h1
          omega
        have HNM := Lib.hid hnm
        have m0 : wr.cell? ⟨w3.heap.size, 0, none⟩ = some (.int .i64 most) := cell_blk HS.out.box rfl
        have m1' : wr.cell? ⟨w3.heap.size, 1, none⟩ = some (.slice M nm cm) := cell_blk HS.out.box rfl
        clear hrd hys hBp hnm
        go_wp2_with fail
        refine (rfeed_any most M nm cm zs HS.out.fed Ap ys.length cp ys HBP.out m1 m2 (by omega)).mono ?_
        rintro e w4 ⟨M', n', c', zs', F, f, rfl, hn', hcut, hzx, hfed, hF, hb4⟩
        obtain ⟨ng, nv⟩ := HS.out.gm_ne
        have hlen' : zs'.length = n' := hfed.now.len
        have hvl : ∀ k, v.ownBlock = some k → k < wr.heap.size := HS.out.dec.vlt
        have hgl : w1.heap.size < wr.heap.size := HS.out.dec.glt
        have hml : w3.heap.size < wr.heap.size := (Array.getElem?_eq_some_iff.1 HS.out.box).1
        have hz4 : wr.heap.size ≤ w4.heap.size := hb4.size
        have HD4 := Lib.hid (HS.out.dec.below hb4)
        have HB4 := Lib.hid (belowT HS.out.below hb4)
        have HM4 := Lib.hid (keepB hb4 HS.out.box)
        have HF4 := Lib.hid hF
        have HFD4 := Lib.hid (hfed.mono (ok' := fun k => k ≠ w1.heap.size ∧ some k ≠ v.ownBlock ∧ k ≠ w3.heap.size) (by
          rintro k (hk | hk)
          · exact hk
          · exact ⟨by omega, fun e => by have := hvl k e.symm; omega, by omega⟩))
        have HVL := Lib.hid hvl
        have HCUT := Lib.hid hcut
        have HZX := Lib.hid hzx
        have HLEN := Lib.hid hlen'
        have HNV := Lib.hid nv
        have HNG := Lib.hid ng
        have hbr := HBP.out.next hb4
        have HBP4 := Lib.hid hbr
        have HXZ := Lib.hid HS.out.fed.now.byt
        clear hfed hF hb4 hcut hzx hlen' hvl m0 m1' nv ng hbr
        go_upto_region 11 with fail
        obtain ⟨w5, hw5⟩ : ∃ w5, w5 = w4.alloc (.cells #[.int .i64 most, .slice M' n' c'] 53) := ⟨_, rfl⟩
        have hb45 : Below w4.heap.size w4 w5 := by rw [hw5]; exact (Below.refl _ _).alloc (Nat.le_refl _) _
        have hn5 : w5.heap[w4.heap.size]? = some (rdec most M' n' c') := by rw [hw5]; exact alloc_at _ _
        rw [← hw5]
        have HB5 := Lib.hid (belowT HB4.out hb45)
        have HB45 := Lib.hid hb45
        have HN5 := Lib.hid hn5
        clear hw5 hb45 hn5
        have hxb := HBP4.out.byt
        have HYX := Lib.hid hxb
        clear hxb
        go_wp2_with (at_builtin; go_loud (refine append_at (w0 := w1) rfl _ _ rfl (.slice (some ⟨w5.heap.size, 0, none⟩) 0 0) [] rfl (own_new w5 w1.heap.size [] HB5.out.size (by simp)) Ap ys.length cp ys rfl ((HBP4.out.next HB45.out).next ((Below.refl _ _).alloc (Nat.le_refl _) _)) (by simp <;> omega) (HB5.out.alloc HB5.out.size _) ?_; intro va wa hoa hba2 hga _; rw [List.nil_append] at hoa; obtain ⟨Aa, ca, rfl, hqa⟩ := Own.bs hoa HYX.out; have hbW : Below w5.heap.size w5 wa := ((Below.refl _ _).alloc (Nat.le_refl _) _).grown hga (by simp) (fun k hk => by simp [Value.ownBlock] at hk; omega); have HB4a := Lib.hid (belowT HB45.out hbW); have HNa := Lib.hid (keepB hbW HN5.out); have HBa := Lib.hid hba2; have HQa := Lib.hid hqa; clear hoa hba2 hga hqa hbW))
        refine (feed_dec' (HU.out.at_ HB1.out).good (HU.out.at_ HB1.out).law w1.heap.size most zs v b HBa.out (HD4.out.below HB4a.out) (Nat.le_refl _) HXZ.out Aa ys.length ca ys HQa.out m1 m2 (by have := restX_len most zs; have := HNM.out; omega)).mono ?_
        rintro e w6 ⟨f6, v6, b6, rfl, hF6⟩
        obtain ⟨A6, c6, rfl, _⟩ := Kd.N_reads hF6.frames
        have hk4 := HB4a.out.size
        have hkk : ∀ k, k < wa.heap.size → k ≠ w1.heap.size → some k ≠ v.ownBlock → w6.heap[k]? = wa.heap[k]? := fun k h1 h2 h3 => hF6.kept.2 k h1 (fun h => h.elim h2 h3)
        have hm6 : w6.heap[w3.heap.size]? = some (rdec most M nm cm) := (hkk _ (by omega) HNG.out HNV.out).trans (keepB HB4a.out HM4.out)
        have hn6 : w6.heap[w4.heap.size]? = some (rdec most M' n' c') := (hkk _ (Array.getElem?_eq_some_iff.1 HNa.out).1 (by omega) (fun e => by have := HVL.out _ e.symm; omega)).trans HNa.out
        have hv6 : ∀ k, k < wa.heap.size → some k ≠ v.ownBlock → some k ≠ v6.ownBlock := fun k h1 h2 => by
          rcases hF6.row with h | h | ⟨i, h, hi⟩
          · rw [h]; exact h2
          · rw [h]; simp
          · rw [h]; intro e; injection e with e; omega
        have hfd6 : FBs w6 (fun k => k ≠ w1.heap.size ∧ some k ≠ v6.ownBlock ∧ k ≠ w3.heap.size) M' n' c' zs' := by
          have h1 := (HFD4.out.below HB4a.out)
          have h2 : FBs wa (fun k => (k ≠ w1.heap.size ∧ some k ≠ v.ownBlock ∧ k ≠ w3.heap.size) ∧ k < wa.heap.size) M' n' c' zs' := Foot.bound h1
          exact (h2.step (w1 := w6) fun k hk hlt => hkk k hlt hk.1.1 hk.1.2.1).mono fun k hk => ⟨hk.1.1, hv6 k hk.2 hk.1.2.1, hk.1.2.2⟩
        have hFw6 : Kd.F kFr w6 (fun k => wr.heap.size ≤ k) F (newX most zs ys).length (newX most zs ys) := Kd.F_step (Kd.F_below HF4.out HB4a.out) fun k hk hlt => hkk k hlt (by omega) (fun e => by have := HVL.out k e.symm; omega)
        have hdec6 := (hF6.dec.cut_eq HCUT.out)
        have hN6 := Kd.N_F hF6.frames
        have he6 : errX most (zs ++ ys) b6 = errX most zs' b6 := by unfold errX codeX; rw [HCUT.out]
        have hy6 : whyX most (zs ++ ys) = whyX most zs' := by unfold whyX codeX; rw [HCUT.out]
        rw [he6, hy6]
        have HB6 := Lib.hid hF6.below
        have HM6 := Lib.hid hm6
        have HFD6 := Lib.hid hfd6
        have HFW6 := Lib.hid hFw6
        have HDC6 := Lib.hid hdec6
        have HFG6 := Lib.hid hN6
        have hwa6 : wa.heap.size ≤ w6.heap.size := hF6.kept.1
        have c0 : w6.cell? ⟨w4.heap.size, 0, none⟩ = some (.int .i64 most) := cell_blk hn6 rfl
        have c1 : w6.cell? ⟨w4.heap.size, 1, none⟩ = some (.slice M' n' c') := cell_blk hn6 rfl
        have k0 : w6.cell? ⟨w3.heap.size, 0, none⟩ = some (.int .i64 most) := cell_blk hm6 rfl
        have k1 : w6.cell? ⟨w3.heap.size, 1, none⟩ = some (.slice M nm cm) := cell_blk hm6 rfl
        have k2 : ∀ i, w6.frozen? ⟨w3.heap.size, i, none⟩ = false := fun i => free_blk hm6
        clear hF6 hkk hm6 hn6 hv6 hfd6 hFw6 hdec6 hN6 he6 hy6
        go_upto_region 13 with fail
        obtain ⟨w7, hw7⟩ : ∃ w7, w7 = (w6.setCell ⟨w3.heap.size, 0, none⟩ (.int .i64 most)).setCell ⟨w3.heap.size, 1, none⟩ (.slice M' n' c') := ⟨_, rfl⟩
        have hst : ∀ k, k ≠ w3.heap.size → w7.heap[k]? = w6.heap[k]? := fun k hk => by rw [hw7, set_other _ hk, set_other _ hk]
        have hm7 : w7.heap[w3.heap.size]? = some (rdec most M' n' c') := by rw [hw7]; exact set_blk _ (set_blk _ HM6.out)
        have hb7 : Below w1.heap.size w1 w7 := by rw [hw7]; exact (HB6.out.setCell hz3 _).setCell hz3 _
        have ng7 : w1.heap.size ≠ w3.heap.size := by omega
        have hv67 : ∀ k, v6.ownBlock = some k → k ≠ w3.heap.size := fun k hk e => by
          subst e
          by_cases hc : codeX most zs' = 0
          · obtain ⟨cs, h1⟩ := own_typed (HDC6.out.live hc).2 _ hk
            rw [HM6.out] at h1; simp at h1
          · rw [(HDC6.out.dead hc).2.2] at hk; simp [Value.ownBlock] at hk
        have hd7 : DecV sa w1 w7 w1.heap.size most zs' v6 b6 := HDC6.out.step (hst _ ng7) (fun k hk => hst k (hv67 k hk)) (fun hc => hst b6 (fun e => by
          have h1 := (HDC6.out.dead hc).2.1
          rw [e, HM6.out] at h1; simp at h1))
        have hfd7 := HFD6.out.step (w1 := w7) (fun k hk _ => hst k hk.2.2)
        have hfw7 := Kd.F_step HFW6.out (W1 := w7) (fun k hk _ => hst k (by omega))
        have hfg7 := Kd.F_step HFG6.out (W1 := w7) (fun k hk _ => hst k (by omega))
        rw [← hw7]
        have HS7 := Lib.hid (show FStep sa w1 w7 w1.heap.size w3.heap.size most ps (j + 1) zs' v6 b6 M' n' c' from ⟨hb7, hd7, hm7, hfd7, by
          have h1 := totj_succ hlt
          have h2 := HS.out.len
          have h3 := HNM.out
          rw [← HY.out] at h1
          rw [HLEN.out]
          omega, hz3⟩)
        have HFW7 := Lib.hid hfw7
        have HFG7 := Lib.hid hfg7
        have k0' : w7.cell? ⟨w3.heap.size, 0, none⟩ = some (.int .i64 most) := cell_blk hm7 rfl
        have k1' : w7.cell? ⟨w3.heap.size, 1, none⟩ = some (.slice M' n' c') := cell_blk hm7 rfl
        have HU7 := Lib.hid (HU.out.next (belowT HB1.out hb7))
        have ht := told_F most M' n' c' zs' hfd7.now m1 m2 (by omega)
        have HNL := Lib.hid (show (newX most zs ys).length ≤ 9223372036854775807 by
          have h1 := framesX_le most (zs ++ ys)
          rw [framesX_app, List.length_append, List.length_append] at h1
          have := HNM.out
          omega)
        clear hst hm7 hb7 hv67 hd7 hfd7 hfw7 hfg7 hw7 c0 c1 k0 k1 k2
        go_wp2_with fail
        refine ht.mono ?_
        rintro e w8 ⟨A9, c9, rfl, _, _, hb8⟩
        obtain ⟨w9, hw9⟩ : ∃ w9, w9 = w8.alloc (.cells #[.slice A9 (framesX most zs').length c9, .int .i64 (restX most zs').length, .int .i64 (whyX most zs'), .int .u32 (stX most zs')] 66) := ⟨_, rfl⟩
        have hb79 : Below w7.heap.size w7 w9 := by rw [hw9]; exact hb8.alloc hb8.size _
        have ht9 : w9.heap[w8.heap.size]? = some (rtold (.slice A9 (framesX most zs').length c9) (restX most zs').length (whyX most zs') (stX most zs')) := by rw [hw9]; exact alloc_at _ _
        have HB79 := Lib.hid hb79
        have HT9 := Lib.hid ht9
        have hF1 := Kd.F_mono (Kd.F_bound (Kd.F_below HFG7.out hb79)) (ok' := fun k => k < w9.heap.size) fun k hk => hk.2
        have hF2 := Kd.F_mono (Kd.F_bound (Kd.F_below HFW7.out hb79)) (ok' := fun k => k < w9.heap.size) fun k hk => hk.2
        have hsf := fun (d1 d2 : Nat) => sameFrames_any (w := w9) (c := d1) (d := d2) rfl hF1 hF2 HNL.out
        have HSF := Lib.hid hsf
        have HW9 := Lib.hid hw9
        clear hb8 hb79 ht9 hF1 hF2 hsf hw9 ht k0' k1'
        go_wp2_with fail
        rw [← HW9.out]
        refine (HSF.out c6 f).mono ?_
        rintro e wb ⟨rfl, hbb⟩
        have hb7b := belowT HB79.out hbb
        have HSb := Lib.hid hb7b
        have htb := keepB hbb HT9.out
        have hmb := keepB hb7b HS7.out.box
        have HTB := Lib.hid htb
        have HMB := Lib.hid hmb
        have y3 : wb.cell? ⟨w8.heap.size, 3, none⟩ = some (.int .u32 (stX most zs')) := cell_blk htb rfl
        have HDb := Lib.hid (HS7.out.dec.below hb7b)
        clear hbb hb7b htb hmb
        go_wp2_with fail
        refine (fails_dec (HU7.out.at_ HSb.out).good (HU7.out.at_ HSb.out).ert HDb.out).mono ?_
        rintro e wc ⟨rfl, hbc⟩
        have HSc := Lib.hid (belowT HSb.out hbc)
        have htc := keepB hbc HTB.out
        have hmc := keepB hbc HMB.out
        have HDc := Lib.hid (HDb.out.below hbc)
        have HFc := Lib.hid (HS7.out.fed.below HSc.out)
        have HUc := Lib.hid (HU7.out.next HSc.out)
        have x0 : wc.cell? ⟨w3.heap.size, 0, none⟩ = some (.int .i64 most) := cell_blk hmc rfl
        have x1 : wc.cell? ⟨w3.heap.size, 1, none⟩ = some (.slice M' n' c') := cell_blk hmc rfl
        have x2 : wc.cell? ⟨w8.heap.size, 2, none⟩ = some (.int .i64 (whyX most zs')) := cell_blk htc rfl
        have x3 : wc.cell? ⟨w8.heap.size, 3, none⟩ = some (.int .u32 (stX most zs')) := cell_blk htc rfl
        have hn9 : n' ≤ 1000000000 := by omega
        have hz9 : zs'.length ≤ 1000000000 := by rw [HLEN.out]; exact hn9
        have hz10 : zs'.length ≤ 1099511627776 := by omega
        clear hbc htc hmc y3
        go_wp2_with fail
        refine start_ (n := 22) (S := fun w' => w'.cell? ⟨w3.heap.size, 0, none⟩ = some (.int .i64 most) ∧ w'.cell? ⟨w3.heap.size, 1, none⟩ = some (.slice M' n' c') ∧ w'.cell? ⟨w8.heap.size, 2, none⟩ = some (.int .i64 (whyX most zs')) ∧ w'.cell? ⟨w8.heap.size, 3, none⟩ = some (.int .u32 (stX most zs')) ∧ Hid (Below wc.heap.size wc w')) (ds := []) #[false, false, false, false, false, false, false, false, false, false, false, false, false, false, false, false, false, false, false, false, false, false] (by kernel_rfl) rfl rfl (⟨x0, x1, x2, x3, Lib.hid (Below.refl _ _).drew⟩) (fun hHeld => ?_)
        refine pure_ (i := 0) (N := some 76) (v := ?_) (a' := ?_) #[true, false, false, false, false, false, false, false, false, false, false, false, false, false, false, false, false, false, false, false, false, false] rfl rfl (by kernel_rfl) (fun _ _ _ h => h) (Or.inl ⟨by rfl, ?_⟩) ?_ ?_
        rotate_left
        · intro w'
          go_simp
          with_reducible rfl
        rotate_left
        · simp only [Act.put, List.setIfInBounds_toArray, List.set_cons_zero, List.set_cons_succ, i64_w, i32_w]
          rfl
        refine take_ (i := 2) (N := some 78) (v := ?_) (a' := ?_) #[true, false, true, false, false, false, false, false, false, false, false, false, false, false, false, false, false, false, false, false, false, false] rfl rfl (by kernel_rfl) (fun _ _ _ h => h) (Or.inl ⟨by rfl, ?_⟩) hHeld ?_ ?_
        rotate_left
        · rintro w' ⟨s0, s1, s2, s3, s4⟩
          go_simp
          with_reducible rfl
        rotate_left
        · simp only [Act.put, List.setIfInBounds_toArray, List.set_cons_zero, List.set_cons_succ, i64_w, i32_w]
          rfl
        refine one_ (i := 1) (N := some 77) #[true, true, true, false, false, false, false, false, false, false, false, false, false, false, false, false, false, false, false, false, false, false] rfl rfl (by kernel_rfl) (by decide) (fun K hK => ?_)
        refine goes_ Tryd.func22 (by kernel_rfl) rfl #[.pointer (some ⟨w1.heap.size, 0, none⟩)] (by rfl) rfl rfl (by simp only [List.map_toArray, List.map_cons, List.map_nil]; rfl) ?_
        with_reducible refine (held_dec (HDc.out.below hHeld.2.2.2.2.out) HZX.out).mono ?_
        rintro e wd ⟨rfl, rfl⟩
        refine ⟨_, rfl, ?_⟩
        refine hK.out _ _ (hHeld) (fun hHeld => ?_)
        clear hK K
        refine norm_ (a' := ?_) ?_ ?_
        rotate_left
        · show Act.put _ (some 77) _ = _
          simp only [Act.put, List.setIfInBounds_toArray, List.set_cons_zero, List.set_cons_succ, i64_w, i32_w]
          rfl
        refine one_ (i := 3) (N := some 79) #[true, true, true, true, false, false, false, false, false, false, false, false, false, false, false, false, false, false, false, false, false, false] rfl rfl (by kernel_rfl) (by decide) (fun K hK => ?_)
        refine goes_ Tryd.func35 (by kernel_rfl) rfl #[.agg #[.int .i64 most, .slice M' n' c']] (by rfl) rfl rfl (by simp only [List.map_toArray, List.map_cons, List.map_nil]; rfl) ?_
        with_reducible refine (rheld_any most M' n' c' zs' (HFc.out.below hHeld.2.2.2.2.out).now m1 m2 hn9).mono ?_
        rintro e wd ⟨rfl, hbd⟩
        refine ⟨_, rfl, ?_⟩
        have HBD := Lib.hid hbd
        clear hbd
        refine hK.out _ _ (⟨keepA HBD.out hHeld.1, keepA HBD.out hHeld.2.1, keepA HBD.out hHeld.2.2.1, keepA HBD.out hHeld.2.2.2.1, Lib.hid (belowT hHeld.2.2.2.2.out HBD.out)⟩) (fun hHeld => ?_)
        clear hK K
        refine norm_ (a' := ?_) ?_ ?_
        rotate_left
        · show Act.put _ (some 79) _ = _
          simp only [Act.put, List.setIfInBounds_toArray, List.set_cons_zero, List.set_cons_succ, i64_w, i32_w]
          rfl
        refine pure_ (i := 4) (N := some 80) (v := ?_) (a' := ?_) #[true, true, true, true, true, false, false, false, false, false, false, false, false, false, false, false, false, false, false, false, false, false] rfl rfl (by kernel_rfl) (fun _ _ _ h => h) (Or.inl ⟨by rfl, ?_⟩) ?_ ?_
        rotate_left
        · intro w'
          go_simp
          with_reducible rfl
        rotate_left
        · simp only [Act.put, List.setIfInBounds_toArray, List.set_cons_zero, List.set_cons_succ, i64_w, i32_w]
          rfl
        refine pure_ (i := 5) (N := some 81) (v := ?_) (a' := ?_) #[true, true, true, true, true, true, false, false, false, false, false, false, false, false, false, false, false, false, false, false, false, false] rfl rfl (by kernel_rfl) (fun _ _ _ h => h) (Or.inl ⟨by rfl, ?_⟩) ?_ ?_
        rotate_left
        · intro w'
          go_simp
          with_reducible rfl
        rotate_left
        · simp only [Act.put, List.setIfInBounds_toArray, List.set_cons_zero, List.set_cons_succ, i64_w, i32_w]
          rfl
        refine pure_ (i := 6) (N := some 82) (v := ?_) (a' := ?_) #[true, true, true, true, true, true, true, false, false, false, false, false, false, false, false, false, false, false, false, false, false, false] rfl rfl (by kernel_rfl) (fun _ _ _ h => h) (Or.inl ⟨by rfl, ?_⟩) ?_ ?_
        rotate_left
        · intro w'
          go_simp
          with_reducible rfl
        rotate_left
        · simp only [Act.put, List.setIfInBounds_toArray, List.set_cons_zero, List.set_cons_succ, i64_w, i32_w]
          rfl
        refine take_ (i := 8) (N := some 84) (v := ?_) (a' := ?_) #[true, true, true, true, true, true, true, false, true, false, false, false, false, false, false, false, false, false, false, false, false, false] rfl rfl (by kernel_rfl) (fun _ _ _ h => h) (Or.inl ⟨by rfl, ?_⟩) hHeld ?_ ?_
        rotate_left
        · rintro w' ⟨s0, s1, s2, s3, s4⟩
          go_simp
          with_reducible rfl
        rotate_left
        · simp only [Act.put, List.setIfInBounds_toArray, List.set_cons_zero, List.set_cons_succ, i64_w, i32_w]
          rfl
        refine one_ (i := 7) (N := some 83) #[true, true, true, true, true, true, true, true, true, false, false, false, false, false, false, false, false, false, false, false, false, false] rfl rfl (by kernel_rfl) (by decide) (fun K hK => ?_)
        refine goes_ Tryd.func23 (by kernel_rfl) rfl #[.pointer (some ⟨w1.heap.size, 0, none⟩)] (by rfl) rfl rfl (by simp only [List.map_toArray, List.map_cons, List.map_nil]; rfl) ?_
        with_reducible refine (wants_dec (HUc.out.at_ hHeld.2.2.2.2.out).good (HDc.out.below hHeld.2.2.2.2.out) HZX.out hz10).mono ?_
        rintro e wd ⟨rfl, hbd⟩
        refine ⟨_, rfl, ?_⟩
        have HBD := Lib.hid hbd
        clear hbd
        refine hK.out _ _ (⟨keepA HBD.out hHeld.1, keepA HBD.out hHeld.2.1, keepA HBD.out hHeld.2.2.1, keepA HBD.out hHeld.2.2.2.1, Lib.hid (belowT hHeld.2.2.2.2.out HBD.out)⟩) (fun hHeld => ?_)
        clear hK K
        refine norm_ (a' := ?_) ?_ ?_
        rotate_left
        · show Act.put _ (some 83) _ = _
          simp only [Act.put, List.setIfInBounds_toArray, List.set_cons_zero, List.set_cons_succ, i64_w, i32_w]
          rfl
        refine one_ (i := 9) (N := some 85) #[true, true, true, true, true, true, true, true, true, true, false, false, false, false, false, false, false, false, false, false, false, false] rfl rfl (by kernel_rfl) (by decide) (fun K hK => ?_)
        refine goes_ Tryd.func36 (by kernel_rfl) rfl #[.agg #[.int .i64 most, .slice M' n' c']] (by rfl) rfl rfl (by simp only [List.map_toArray, List.map_cons, List.map_nil]; rfl) ?_
        with_reducible refine (rwants_any most M' n' c' zs' (HFc.out.below hHeld.2.2.2.2.out).now m1 m2 hn9).mono ?_
        rintro e wd ⟨rfl, hbd⟩
        refine ⟨_, rfl, ?_⟩
        have HBD := Lib.hid hbd
        clear hbd
        refine hK.out _ _ (⟨keepA HBD.out hHeld.1, keepA HBD.out hHeld.2.1, keepA HBD.out hHeld.2.2.1, keepA HBD.out hHeld.2.2.2.1, Lib.hid (belowT hHeld.2.2.2.2.out HBD.out)⟩) (fun hHeld => ?_)
        clear hK K
        refine norm_ (a' := ?_) ?_ ?_
        rotate_left
        · show Act.put _ (some 85) _ = _
          simp only [Act.put, List.setIfInBounds_toArray, List.set_cons_zero, List.set_cons_succ, i64_w, i32_w]
          rfl
        refine pure_ (i := 10) (N := some 86) (v := ?_) (a' := ?_) #[true, true, true, true, true, true, true, true, true, true, true, false, false, false, false, false, false, false, false, false, false, false] rfl rfl (by kernel_rfl) (fun _ _ _ h => h) (Or.inl ⟨by rfl, ?_⟩) ?_ ?_
        rotate_left
        · intro w'
          go_simp
          with_reducible rfl
        rotate_left
        · simp only [Act.put, List.setIfInBounds_toArray, List.set_cons_zero, List.set_cons_succ, i64_w, i32_w]
          rfl
        refine pure_ (i := 11) (N := some 87) (v := ?_) (a' := ?_) #[true, true, true, true, true, true, true, true, true, true, true, true, false, false, false, false, false, false, false, false, false, false] rfl rfl (by kernel_rfl) (fun _ _ _ h => h) (Or.inl ⟨by rfl, ?_⟩) ?_ ?_
        rotate_left
        · intro w'
          go_simp
          with_reducible rfl
        rotate_left
        · simp only [Act.put, List.setIfInBounds_toArray, List.set_cons_zero, List.set_cons_succ, i64_w, i32_w]
          rfl
        refine pure_ (i := 12) (N := some 88) (v := ?_) (a' := ?_) #[true, true, true, true, true, true, true, true, true, true, true, true, true, false, false, false, false, false, false, false, false, false] rfl rfl (by kernel_rfl) (fun _ _ _ h => h) (Or.inl ⟨by rfl, ?_⟩) ?_ ?_
        rotate_left
        · intro w'
          go_simp
          with_reducible rfl
        rotate_left
        · simp only [Act.put, List.setIfInBounds_toArray, List.set_cons_zero, List.set_cons_succ, i64_w, i32_w]
          rfl
        refine pure_ (i := 13) (N := some 89) (v := ?_) (a' := ?_) #[true, true, true, true, true, true, true, true, true, true, true, true, true, true, false, false, false, false, false, false, false, false] rfl rfl (by kernel_rfl) (fun _ _ _ h => h) (Or.inl ⟨by rfl, ?_⟩) ?_ ?_
        rotate_left
        · intro w'
          go_simp
          with_reducible rfl
        rotate_left
        · simp only [Act.put, List.setIfInBounds_toArray, List.set_cons_zero, List.set_cons_succ, i64_w, i32_w]
          rfl
        refine pure_ (i := 15) (N := some 91) (v := ?_) (a' := ?_) #[true, true, true, true, true, true, true, true, true, true, true, true, true, true, false, true, false, false, false, false, false, false] rfl rfl (by kernel_rfl) (fun _ _ _ h => h) (Or.inl ⟨by rfl, ?_⟩) ?_ ?_
        rotate_left
        · intro w'
          go_simp
          with_reducible rfl
        rotate_left
        · simp only [Act.put, List.setIfInBounds_toArray, List.set_cons_zero, List.set_cons_succ, i64_w, i32_w]
          rfl
        refine pure_ (i := 17) (N := some 93) (v := ?_) (a' := ?_) #[true, true, true, true, true, true, true, true, true, true, true, true, true, true, false, true, false, true, false, false, false, false] rfl rfl (by kernel_rfl) (fun _ _ _ h => h) (Or.inl ⟨by rfl, ?_⟩) ?_ ?_
        rotate_left
        · intro w'
          go_simp
          with_reducible rfl
        rotate_left
        · simp only [Act.put, List.setIfInBounds_toArray, List.set_cons_zero, List.set_cons_succ, i64_w, i32_w]
          rfl
        refine take_ (i := 16) (N := some 92) (v := ?_) (a' := ?_) #[true, true, true, true, true, true, true, true, true, true, true, true, true, true, false, true, true, true, false, false, false, false] rfl rfl (by kernel_rfl) (fun _ _ _ h => h) (Or.inl ⟨by rfl, ?_⟩) hHeld ?_ ?_
        rotate_left
        · rintro w' ⟨s0, s1, s2, s3, s4⟩
          go_simp
          with_reducible rfl
        rotate_left
        · simp only [Act.put, List.setIfInBounds_toArray, List.set_cons_zero, List.set_cons_succ, i64_w, i32_w]
          rfl
        refine take_ (i := 18) (N := some 94) (v := ?_) (a' := ?_) #[true, true, true, true, true, true, true, true, true, true, true, true, true, true, false, true, true, true, true, false, false, false] rfl rfl (by kernel_rfl) (fun _ _ _ h => h) (Or.inl ⟨by rfl, ?_⟩) hHeld ?_ ?_
        rotate_left
        · rintro w' ⟨s0, s1, s2, s3, s4⟩
          go_simp
          with_reducible rfl
        rotate_left
        · simp only [Act.put, List.setIfInBounds_toArray, List.set_cons_zero, List.set_cons_succ, i64_w, i32_w]
          rfl
        refine one_ (i := 14) (N := some 90) #[true, true, true, true, true, true, true, true, true, true, true, true, true, true, true, true, true, true, true, false, false, false] rfl rfl (by kernel_rfl) (by decide) (fun K hK => ?_)
        refine goes_ Tryd.func24 (by kernel_rfl) rfl #[.pointer (some ⟨w1.heap.size, 0, none⟩)] (by rfl) rfl rfl (by simp only [List.map_toArray, List.map_cons, List.map_nil]; rfl) ?_
        with_reducible refine (err_dec (HDc.out.below hHeld.2.2.2.2.out)).mono ?_
        rintro e wd ⟨rfl, rfl⟩
        refine ⟨_, rfl, ?_⟩
        refine hK.out _ _ (hHeld) (fun hHeld => ?_)
        clear hK K
        refine norm_ (a' := ?_) ?_ ?_
        rotate_left
        · show Act.put _ (some 90) _ = _
          simp only [Act.put, List.setIfInBounds_toArray, List.set_cons_zero, List.set_cons_succ, i64_w, i32_w]
          rfl
        refine one_ (i := 19) (N := some 95) #[true, true, true, true, true, true, true, true, true, true, true, true, true, true, true, true, true, true, true, true, false, false] rfl rfl (by kernel_rfl) (by decide) (fun K hK => ?_)
        refine goes_ Tryd.func38 (by kernel_rfl) rfl #[errX most zs' b6, .int .i64 (whyX most zs'), .int .u32 (stX most zs')] (by rfl) rfl rfl (by simp only [List.map_toArray, List.map_cons, List.map_nil]; rfl) ?_
        with_reducible refine (fails_dec (HUc.out.at_ hHeld.2.2.2.2.out).good (HUc.out.at_ hHeld.2.2.2.2.out).ert (HDc.out.below hHeld.2.2.2.2.out)).mono ?_
        rintro e wd ⟨rfl, hbd⟩
        refine ⟨_, rfl, ?_⟩
        have HBD := Lib.hid hbd
        clear hbd
        refine hK.out _ _ (⟨keepA HBD.out hHeld.1, keepA HBD.out hHeld.2.1, keepA HBD.out hHeld.2.2.1, keepA HBD.out hHeld.2.2.2.1, Lib.hid (belowT hHeld.2.2.2.2.out HBD.out)⟩) (fun hHeld => ?_)
        clear hK K
        refine norm_ (a' := ?_) ?_ ?_
        rotate_left
        · show Act.put _ (some 95) _ = _
          simp only [Act.put, List.setIfInBounds_toArray, List.set_cons_zero, List.set_cons_succ, i64_w, i32_w]
          rfl
        refine pure_ (i := 20) (N := some 96) (v := ?_) (a' := ?_) #[true, true, true, true, true, true, true, true, true, true, true, true, true, true, true, true, true, true, true, true, true, false] rfl rfl (by kernel_rfl) (fun _ _ _ h => h) (Or.inl ⟨by rfl, ?_⟩) ?_ ?_
        rotate_left
        · intro w'
          go_simp
          with_reducible rfl
        rotate_left
        · simp only [Act.put, List.setIfInBounds_toArray, List.set_cons_zero, List.set_cons_succ, i64_w, i32_w]
          rfl
        refine pure_ (i := 21) (N := some 97) (v := ?_) (a' := ?_) #[true, true, true, true, true, true, true, true, true, true, true, true, true, true, true, true, true, true, true, true, true, true] rfl rfl (by kernel_rfl) (fun _ _ _ h => h) (Or.inl ⟨by rfl, ?_⟩) ?_ ?_
        rotate_left
        · intro w'
          go_simp
          with_reducible rfl
        rotate_left
        · simp only [Act.put, List.setIfInBounds_toArray, List.set_cons_zero, List.set_cons_succ, i64_w, i32_w]
          rfl
        refine done_ (by kernel_rfl) ?_
        have HBe := Lib.hid (belowT HSc.out hHeld.2.2.2.2.out)
        clear hHeld x0 x1 x2 x3
        go_wp2_with fail
        go_roundw
        case rel => exact ⟨j + 1, zs', v6, b6, M', n', c', by go_num, by omega, Lib.hid ⟨belowT HS7.out.below HBe.out, HS7.out.dec.below HBe.out, keepB HBe.out HS7.out.box, HS7.out.fed.below HBe.out, HS7.out.len, HS7.out.gm0⟩⟩
        case measure => simp [intOf]; omega
      · have hd1 : decide ((j : Int) < ps.length) = false := by simp; omega
        go_wp2_with fail
        go_ret
        exact ⟨rfl, belowT HB1.out HS.out.below⟩
end Go.Proofs.YtfddhipdedcacaaDoor
