/-
  culvertlaw26.joined and heard.
-/
import Derived.Test.YtidmgckmphcegaaGreatDoorMM
import Derived.Test.YtidmgckmphcegaaGreatDoorTAll
import Derived.Test.YtidmgckmphcegaaGreatDoorMD
namespace Go.Proofs.YtidmgckmphcegaaGreatDoor
open Go.RowKit Go.Proofs.YtidmgckmphcegaaGreatDoorW.PrintWords Go.Proofs.YtidmgckmphcegaaGreatDoorW.PrintLast Go.Proofs.YtidmgckmphcegaaGreatDoor.Px
set_option linter.unusedVariables false
set_option linter.unusedSimpArgs false

theorem str_cat (a b : List UInt8) : (⟨a.toArray⟩ : ByteArray) ++ ⟨b.toArray⟩ = ⟨(a ++ b).toArray⟩ := by
  apply ByteArray.ext
  simp [ByteArray.data_append]
theorem stX_rng (most : Int) (xs : List Int) (hx : ∀ x ∈ xs, 0 ≤ x ∧ x ≤ 255) (hc : codeX most xs ≠ 0) : 0 ≤ stX most xs ∧ stX most xs ≤ 4294967295 := by
  obtain ⟨_, tl, h1, _, h3⟩ := cut_all most xs hx
  have h4 := (h3 hc).2.2
  have h5 := D_in (ys := tl) (fun x hxt => hx x (by rw [h1]; exact List.mem_append_right _ hxt))
  show 0 ≤ (cut most xs).2.2.2 ∧ (cut most xs).2.2.2 ≤ _
  rw [← h4]
  exact ⟨h5.s0, h5.s1⟩
theorem tellAll_len (most : Int) (xs : List Int) (hx : ∀ x ∈ xs, 0 ≤ x ∧ x ≤ 255) : (tellAll most xs).length ≤ 40 * xs.length + 421 := by
  obtain ⟨h1, tl, h2, _⟩ := cut_all most xs hx
  have h3 := tellL_len (framesX most xs) h1
  have h4 : (flat (framesX most xs)).length ≤ xs.length := by
    have := congrArg List.length h2
    rw [List.length_append] at this
    unfold framesX
    omega
  have h5 : (endL most xs).length ≤ 421 := by
    unfold endL
    split
    · simp
    · rename_i hc
      have hs := stX_rng most xs hx hc
      have hb := brok_len (codeX most xs) (stX most xs).toNat (by omega)
      have e : brokenL (codeX most xs) (stX most xs) = Lib.join (([⟨wBroken.toArray⟩, ⟨(whyW (codeX most xs)).toArray⟩, ⟨#[115, 116, 114, 101, 97, 109]⟩, ⟨(Lib.decDigits (stX most xs).toNat).toArray⟩] : List ByteArray).map (·.data.toList)) [32] ++ [10] := rfl
      rw [e, List.length_append]
      simp only [List.length_cons, List.length_nil]
      omega
  unfold tellAll
  rw [List.length_append]
  omega
theorem pcs_byt {w : World} {A : Option Addr} {n c : Nat} {ps : List (List Int)} (h : Pcs w A n c ps) : ∀ p ∈ ps, ∀ x ∈ p, 0 ≤ x ∧ x ≤ 255 := by
  intro p hp
  obtain ⟨j, hj, rfl⟩ := List.getElem_of_mem hp
  have hn := h.len
  obtain ⟨b, o, _, hr⟩ := h.rd (by omega)
  obtain ⟨A', c', _, hB⟩ := hr j (by omega)
  have := hB.byt
  rwa [List.getD_eq_getElem?_getD, List.getElem?_eq_getElem hj] at this
theorem flat_take_succ {ps : List (List Int)} {k : Nat} (hk : k < ps.length) : (ps.take (k + 1)).flatten = (ps.take k).flatten ++ ps.getD k [] := by
  rw [List.take_succ_eq_append_getElem hk, List.flatten_append, List.getD_eq_getElem?_getD, List.getElem?_eq_getElem hk]
  simp
theorem flat_take_len (ps : List (List Int)) (k : Nat) : (ps.take k).flatten.length ≤ (ps.map List.length).sum := by
  rw [List.length_flatten]
  have h : (ps.map List.length).sum = ((ps.take k).map List.length).sum + ((ps.drop k).map List.length).sum := by
    rw [← List.sum_append, ← List.map_append, List.take_append_drop]
  omega
theorem flat_mem {ps : List (List Int)} (h : ∀ p ∈ ps, ∀ x ∈ p, 0 ≤ x ∧ x ≤ 255) (k : Nat) : ∀ x ∈ (ps.take k).flatten, 0 ≤ x ∧ x ≤ 255 := by
  intro x hx
  obtain ⟨p, hp, hx⟩ := List.mem_flatten.1 hx
  exact h p (List.mem_of_mem_take hp) x hx
theorem sumLen {ps : List (List Int)} {k : Nat} (hk : k < ps.length) : (ps.take k).flatten.length + (ps.getD k []).length ≤ (ps.map List.length).sum := by
  have h := flat_take_len ps (k + 1)
  rw [flat_take_succ hk, List.length_append] at h
  exact h
/-- The loop's state of joined. -/
structure JSt (w wr : World) (v : Value) (out : List Int) : Prop where
  own : Own wr w.heap.size v out
  bel : Below w.heap.size w wr
set_option maxRecDepth 100000 in
set_option maxHeartbeats 2000000 in
theorem joined26_any {w : World} {A : Option Addr} {n c : Nat} {ps : List (List Int)} (hP : Pcs w A n c ps) (hs : (ps.map List.length).sum + n ≤ 100000000) :
    Calls Tryz.prog 39 #[.slice A n c] w fun e w' => ∃ v, e = .returned v ∧ Own w' w.heap.size v ps.flatten ∧ Below w.heap.size w w' := by
  obtain rfl := hP.len
  have HP := Lib.hid hP
  have HSZ := Lib.hid hs
  have hn1 : ps.length ≤ 100000000 := by omega
  have hcap := hP.cap
  clear hP hs
  go_enter Tryz.func39, Tryz.ntmps39
  go_wp2_with fail
  go_loopw [3, 4] (fun v i wr => ∃ k : Nat, k ≤ ps.length ∧ i = .int .i64 k ∧ Hid (JSt w wr v (ps.take k).flatten)) (fun _ i _ => ps.length - (intOf i).toNat)
  case atStart => exact ⟨0, by omega, rfl, Lib.hid ⟨World.ownsRow_nil _ _ _ _, Below.refl _ _⟩⟩
  case round =>
    obtain ⟨k, hk, rfl, HR⟩ := hrel
    by_cases hlt : k < ps.length
    · have hlt' : (k : Int) < ps.length := by omega
      obtain ⟨bp, op, rfl, hrd⟩ := (HP.out.next HR.out.bel).rd (by omega)
      obtain ⟨Ap, cp, hcell, hBp⟩ := hrd k hlt
      have hfl := flat_take_succ hlt
      have hsm := sumLen hlt
      obtain ⟨ys, hys⟩ : ∃ ys, ys = ps.getD k [] := ⟨_, rfl⟩
      rw [← hys] at hcell hBp hfl hsm
      have HBP := Lib.hid hBp
      have HFL := Lib.hid hfl
      have hbd : (ps.take k).flatten.length + ys.length ≤ 140737488355328 := by have := HSZ.out; omega
      clear hrd hys hBp hfl hsm
      go_wp2_with (at_builtin; go_loud (refine append_at (w0 := w) rfl _ _ rfl u3 (ps.take k).flatten rfl HR.out.own Ap ys.length cp ys rfl HBP.out hbd HR.out.bel ?_; intro va wa hoa hba hga _; have HOA := Lib.hid hoa; have HBA := Lib.hid hba; clear hoa hba hga))
      go_roundw
      case rel => exact ⟨k + 1, by omega, by go_num, Lib.hid ⟨by rw [HFL.out]; exact HOA.out, HBA.out⟩⟩
      case measure => simp [intOf]; omega
    · obtain rfl : k = ps.length := by omega
      have hd : decide ((ps.length : Int) < (ps.length : Int)) = false := by simp
      have ht : ps.take ps.length = ps := List.take_length
      rw [ht] at HR
      go_wp2_with fail
      go_ret
      exact ⟨_, rfl, HR.out.own, HR.out.bel⟩
/-- What heard leaves of a tap, and what it answers. -/
structure Heard (sa : Nat → Addr) (w w' : World) (g gd : Nat) (most : Int) (xs : List Int) (v : Value) (b : Nat) : Prop where
  tap : TapV sa w w' g gd most xs v b
  below : Below w.heap.size w w'
theorem heard_no {sa : Nat → Addr} {w : World} (hG : Good w sa) (most : Int) (h : most < 1 ∨ 65536 < most) (x : Value) :
    Calls Tryz.prog 27 #[.int .i64 most, x] w fun e w' => e = .returned (.tuple #[.string ⟨#[]⟩, .pointer none, .bool false]) ∧ Below w.heap.size w w' := by
  have h1 := tnew_no hG most h
  have H := Lib.hid h1
  clear h1 h hG
  go_enter Tryz.func27, Tryz.ntmps27
  go_wp2_with fail
  refine H.out.mono ?_
  rintro e w1 ⟨rfl, hb1⟩
  have HB := Lib.hid hb1
  clear hb1
  go_wp2_with fail
  go_ret3
  exact ⟨rfl, HB.out⟩
set_option maxRecDepth 100000 in
set_option maxHeartbeats 4000000 in
theorem heard_yes {sa : Nat → Addr} {w : World} (hE : TE sa w) (most : Int) (m1 : 1 ≤ most) (m2 : most ≤ 65536) {A : Option Addr} {n c : Nat} {ps : List (List Int)} (hP : Pcs w A n c ps) (hs : (ps.map List.length).sum + n ≤ 100000000) (h28 : codeX most ps.flatten = 0 ∨ inG 28 = true := by first | exact .inr rfl | assumption) :
    Calls Tryz.prog 27 #[.int .i64 most, .slice A n c] w fun e w' => ∃ g gd v b, e = .returned (.tuple #[.string ⟨(tellAll most ps.flatten).toArray⟩, .pointer (some ⟨g, 0, none⟩), .bool true]) ∧ Heard sa w w' g gd most ps.flatten v b := by
  obtain rfl := hP.len
  have hbt := pcs_byt hP
  have HP := Lib.hid hP
  have HE := Lib.hid hE
  have HSZ := Lib.hid hs
  have HBT := Lib.hid hbt
  have H28 := Lib.hid h28
  have hn1 : ps.length ≤ 100000000 := by omega
  have hcap := hP.cap
  have hnew := tnew_yes sa (w0 := w) (w := w) (Nat.le_refl _) most m1 m2
  clear hP hs hE hbt h28
  go_enter Tryz.func27, Tryz.ntmps27
  go_wp2_with fail
  refine hnew.mono ?_
  rintro e w1 ⟨g, gd, rfl, hgl, hgdl, hv1, hb1⟩
  have HV1 := Lib.hid hv1
  have HB1 := Lib.hid hb1
  clear hv1 hb1 hnew
  go_wp2_with fail
  go_loopw [9, 10] (fun s i wr => ∃ (k : Nat) (v : Value) (b : Nat), k ≤ ps.length ∧ i = .int .i64 k ∧ s = .string ⟨(tellAll most (ps.take k).flatten).toArray⟩ ∧ Hid (Heard sa w wr g gd most (ps.take k).flatten v b)) (fun _ i _ => ps.length - (intOf i).toNat)
  case atStart => exact ⟨0, _, _, by omega, rfl, by rw [List.take_zero, List.flatten_nil, tellAll_nil], Lib.hid ⟨HV1.out, HB1.out⟩⟩
  case round =>
    obtain ⟨k, v, b, hk, rfl, rfl, HR⟩ := hrel
    by_cases hlt : k < ps.length
    · have hlt' : (k : Int) < ps.length := by omega
      obtain ⟨bp, op, rfl, hrd⟩ := (HP.out.next HR.out.below).rd (by omega)
      obtain ⟨Ap, cp, hcell, hBp⟩ := hrd k hlt
      have hfl := flat_take_succ hlt
      have hsm := sumLen hlt
      have hxs := flat_mem HBT.out k
      obtain ⟨ys, hys⟩ : ∃ ys, ys = ps.getD k [] := ⟨_, rfl⟩
      rw [← hys] at hcell hBp hfl hsm
      have hyb := hBp.byt
      obtain ⟨xs, hxs'⟩ : ∃ xs, xs = (ps.take k).flatten := ⟨_, rfl⟩
      rw [← hxs'] at HR hfl hsm hxs ⊢
      have hta := tellAll_app most xs ys
      have htl := tellAll_len most (xs ++ ys) (fun x h => (List.mem_append.1 h).elim (hxs x) (hyb x))
      rw [hta, List.length_append, List.length_append] at htl
      have hsz := HSZ.out
      have hzz : xs.length + ys.length ≤ 100000000 := by omega
      have h28' : codeX most (xs ++ ys) = 0 ∨ inG 28 = true := H28.out.imp (fun h => by
        rw [← hfl]
        have e : ps.flatten = (ps.take (k + 1)).flatten ++ (ps.drop (k + 1)).flatten := by rw [← List.flatten_append, List.take_append_drop]
        rw [e] at h
        by_cases hc : codeX most (ps.take (k + 1)).flatten = 0
        · exact hc
        · exact absurd h (by unfold codeX at hc ⊢; rw [app_dead hc]; exact hc)) id
      obtain ⟨t1, ht1⟩ : ∃ t1 : ByteArray, t1 = ⟨(tellAll most xs).toArray⟩ := ⟨_, rfl⟩
      obtain ⟨t2, ht2⟩ : ∃ t2 : ByteArray, t2 = ⟨(tellX most xs ys).toArray⟩ := ⟨_, rfl⟩
      have hz1 : t1.size = (tellAll most xs).length := by rw [ht1]; show (tellAll most xs).toArray.size = _; rw [List.size_toArray]
      have hz2 : t2.size = (tellX most xs ys).length := by rw [ht2]; show (tellX most xs ys).toArray.size = _; rw [List.size_toArray]
      have hcat : ¬ 9223372036854775807 < t1.size + t2.size := by rw [hz1, hz2]; omega
      have hts : t1 ++ t2 = (⟨(tellAll most (xs ++ ys)).toArray⟩ : ByteArray) := by rw [ht1, ht2, hta, str_cat]
      have HBP := Lib.hid hBp
      have HFL := Lib.hid hfl
      have HXS := Lib.hid hxs
      have HYB := Lib.hid hyb
      have HT2 := Lib.hid ht2
      have HTS := Lib.hid hts
      have HX28 := Lib.hid h28'
      have hw0 : w.heap.size ≤ wr.heap.size := HR.out.below.size
      have hcell2 := fun o => cell?_alloc_old o hcell
      rw [← ht1]
      clear hrd hys hBp hfl hsm hxs hyb hta htl ht1 ht2 hz1 hz2 hts h28' hxs' hsz
      go_wp2_with (at_builtin; go_loud (refine append_at (w0 := w) rfl _ _ rfl (.slice (some ⟨wr.heap.size, 0, none⟩) 0 0) [] rfl (own_new wr w.heap.size [] hw0 (by simp)) Ap ys.length cp ys rfl (HBP.out.next ((Below.refl _ _).alloc (Nat.le_refl _) _)) (by simp <;> omega) (HR.out.below.alloc hw0 _) ?_; intro va wa hoa hba hga _; rw [List.nil_append] at hoa; obtain ⟨Aa, ca, rfl, hqa⟩ := Own.bs hoa HYB.out; have hbW : Below wr.heap.size wr wa := ((Below.refl _ _).alloc (Nat.le_refl _) _).grown hga (by simp) (fun k hk => by simp [Value.ownBlock] at hk; omega); have HVa := Lib.hid (HR.out.tap.below hbW); have HBa := Lib.hid hba; have HQa := Lib.hid hqa; clear hoa hba hga hqa hbW))
      refine (tfeed_any HE.out.good HE.out.law HE.out.pow HE.out.wrd HE.out.ert g gd most xs v b HBa.out HVa.out HXS.out Aa ys.length ca ys HQa.out m1 m2 (by omega) HX28.out).mono ?_
      rintro e w5 ⟨v5, b5, rfl, hF5⟩
      have HF5 := Lib.hid hF5
      rw [← HT2.out]
      clear hF5
      go_wp2_with fail
      go_roundw
      case rel => exact ⟨k + 1, v5, b5, by omega, by go_num, by rw [HFL.out, HTS.out], Lib.hid ⟨by rw [HFL.out]; exact HF5.out.tap, HF5.out.below⟩⟩
      case measure => simp [intOf]; omega
    · obtain rfl : k = ps.length := by omega
      have hd : decide ((ps.length : Int) < (ps.length : Int)) = false := by simp
      have ht : ps.take ps.length = ps := List.take_length
      rw [ht] at HR ⊢
      go_wp2_with fail
      go_ret3
      exact ⟨g, gd, v, b, rfl, HR.out⟩
theorem heard_at {sa : Nat → Addr} {w : World} (hE : TE sa w) (most : Int) (m1 : 1 ≤ most) (m2 : most ≤ 65536) {A : Option Addr} {n c : Nat} {ps : List (List Int)} (hP : Pcs w A n c ps) (hs : (ps.map List.length).sum + n ≤ 100000000) (xs : List Int) (hx : ps.flatten = xs) (h28 : codeX most xs = 0 ∨ inG 28 = true := by first | exact .inr rfl | assumption) :
    Calls Tryz.prog 27 #[.int .i64 most, .slice A n c] w fun e w' => ∃ g gd v b, e = .returned (.tuple #[.string ⟨(tellAll most xs).toArray⟩, .pointer (some ⟨g, 0, none⟩), .bool true]) ∧ Heard sa w w' g gd most xs v b := by
  subst hx
  exact heard_yes hE most m1 m2 hP hs h28
end Go.Proofs.YtidmgckmphcegaaGreatDoor
