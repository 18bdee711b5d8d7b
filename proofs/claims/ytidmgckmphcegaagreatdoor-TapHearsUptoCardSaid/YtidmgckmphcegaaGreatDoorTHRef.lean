/-
  culvertref26.Told: of frames that lie somewhere; culvertlaw26.seen.
-/
import Derived.Test.YtidmgckmphcegaaGreatDoorTRTold
import Derived.Test.YtidmgckmphcegaaGreatDoorML
import Derived.Test.YtidmgckmphcegaaGreatDoorMD
namespace Go.Proofs.YtidmgckmphcegaaGreatDoor
open Go.RowKit Go.Proofs.YtidmgckmphcegaaGreatDoorW.PrintWords Go.Proofs.YtidmgckmphcegaaGreatDoorW.PrintLast Go.Proofs.YtidmgckmphcegaaGreatDoor.Px
set_option linter.unusedVariables false
set_option linter.unusedSimpArgs false
/-- Types are below 4. -/
theorem cnt_four {most : Int} {fs : List Fr} (h : ∀ p ∈ fs, FOk most p) (k : Nat) (h4 : ¬ k < 4) : cntF k fs = 0 ∧ sizF k fs = 0 := by
  have e : fs.filter (fun p => decide (p.f0.f1 = (k : Int))) = [] := by
    refine List.filter_eq_nil_iff.2 fun p hp => ?_
    have := fok_ty (h p hp)
    simp
    omega
  unfold cntF sizF
  rw [e]
  exact ⟨rfl, rfl⟩
theorem flat_take_le' (fs : List Fr) (k : Nat) : (flat (fs.take k)).length ≤ (flat fs).length := by
  conv => rhs; rw [← List.take_append_drop k fs, flat_app, List.length_append]
  omega
theorem wrap64_three {n : Nat} (h : n ≤ 3) : wrap64 (n : Int) = n := by unfold wrap64; omega
theorem str_at {w : World} {ad : Addr} {k cc : Nat} {x : Int} (h : w.cell? (ad.add k) = some (.int .u8 x)) : (convert 26 9 (.slice (some (ad.add k)) 1 cc)).run Tryz.prog w = .ok (.string (strOfNums [x])) w :=
  Kd.C_string (P := Tryz.prog) (A := some (ad.add k)) (c := cc) Tryz.underlying26 Tryz.underlying5 Tryz.underlying9 ⟨rfl, by decide, fun _ => ⟨ad.add k, rfl, fun j p hj => ⟨[.int .u8 p], rfl, rfl, fun i u hu => by
    have hj0 : j = 0 := by have := (List.getElem?_eq_some_iff.1 hj).1; simp at this; exact this
    subst hj0
    have hp : x = p := by simpa using hj
    subst hp
    rcases i with _ | i
    · simp only [List.getElem?_cons_zero, Option.some.injEq] at hu
      subst hu
      have e : (ad.add k).add (0 * (Kd.int .u8).sz + 0) = ad.add k := by simp [Addr.add]
      rw [e]; exact h
    · simp at hu⟩⟩⟩
set_option maxRecDepth 100000 in
set_option maxHeartbeats 1000000 in
theorem rtoldR_any {A : Option Addr} {n c : Nat} {xs : List Int} {w : World} (hB : Rd w A n xs) (hcap : n ≤ c) (hn : n ≤ 4294967295) :
    Calls Tryz.prog 46 #[.slice A n c] w fun e w' => e = .returned (.string ⟨(told xs).toArray⟩) ∧ Below w.heap.size w w' := by
  have hl := hB.len
  have hx := hB.byt
  by_cases h0 : n = 0
  · subst h0
    obtain rfl : xs = [] := List.eq_nil_of_length_eq_zero hl
    clear hB hl hx
    go_enter Tryz.func46, Tryz.ntmps46
    go_wp2_with fail
    go_ret
    exact ⟨rfl, Below.refl _ _⟩
  · obtain ⟨ad, rfl, hr⟩ := hB.rd (by omega)
    have HRD := Lib.hid hr
    have HX := Lib.hid hx
    have HL := Lib.hid hl
    have hne : xs ≠ [] := by intro e; subst e; simp at hl; omega
    have HNE := Lib.hid hne
    have hnz : ((n : Int) == 0) = false := by simp; omega
    clear hB hl hx hr hne
    go_enter Tryz.func46, Tryz.ntmps46
    go_wp2_with fail
    go_loopw [3, 4] (fun sv_ i wr => ∃ k : Nat, k ≤ n ∧ i = .int .i64 k ∧ sv_ = .string ⟨(toldL (xs.take k)).toArray⟩ ∧ Hid (Below w.heap.size w wr)) (fun _ i _ => n - (intOf i).toNat)
    case atStart => exact ⟨0, by omega, rfl, by rw [List.take_zero]; rfl, Lib.hid (Below.refl _ _)⟩
    case round =>
      obtain ⟨k, hk, rfl, rfl, HR⟩ := hrel
      by_cases hlt : k < n
      · have hlt' : (k : Int) < n := by omega
        have hd1 : decide ((k : Int) < n) = true := by simp; omega
        obtain ⟨x, hxk⟩ : ∃ x, x = xs.getD k 0 := ⟨_, rfl⟩
        have hxb := byte_at HX.out hxk
        obtain ⟨xn, rfl⟩ : ∃ xn : Nat, x = xn := ⟨x.toNat, by have := hxb.1; omega⟩
        have hx1 : xn ≤ 255 := by have := hxb.2; omega
        have hc : wr.cell? (ad.add k) = some (.int .u8 xn) := by rw [hxk]; exact keepA HR.out (HRD.out k hlt)
        have hkl : k < xs.length := by rw [HL.out]; exact hlt
        have hsn : toldL (xs.take (k + 1)) = toldL (xs.take k) ++ told1 xn := by
          rw [take_snocI xs k hkl, toldL_snoc, hxk, List.getD_eq_getElem?_getD, List.getElem?_eq_getElem hkl]; rfl
        have hlen : (toldL (xs.take k)).length ≤ 3 * 4294967295 := by
          have h1 := (toldL_len (xs.take k)).1
          have h2 : (xs.take k).length ≤ n := by rw [List.length_take, HL.out]; omega
          omega
        have hone : (xs.drop k).take 1 = [(xn : Int)] := by
          rw [List.drop_eq_getElem_cons hkl, List.take_succ_cons, List.take_zero, hxk, List.getD_eq_getElem?_getD, List.getElem?_eq_getElem hkl]; rfl
        have HS := Lib.hid hsn
        have HLN := Lib.hid hlen
        have HXK := Lib.hid hxk
        have HON := Lib.hid hone
        clear hxb hsn hlen hxk hkl hone
        obtain ⟨sl, hsl⟩ : ∃ sl : ByteArray, sl = ⟨(toldL (xs.take k)).toArray⟩ := ⟨_, rfl⟩
        have hss : sl.size ≤ 3 * 4294967295 := by rw [hsl]; show (toldL (xs.take k)).toArray.size ≤ _; rw [List.size_toArray]; exact HLN.out
        rw [← hsl]
        have HSL := Lib.hid hsl
        clear hsl
        go_wp2_with fail
        have hpl := rplain_any (xn : Int) (by omega) (by omega) wr
        refine hpl.mono ?_
        rintro e w1 ⟨rfl, rfl⟩
        clear hpl
        by_cases hp : plainN xn = true
        · have ht : told1 xn = [UInt8.ofNat xn] := by unfold told1; rw [Int.toNat_natCast, if_pos hp]
          have HT := Lib.hid ht
          have hp' : plainN (xn : Int).toNat = true := by rw [Int.toNat_natCast]; exact hp
          clear ht
          go_wp2_with fail
          rw [str_at hc]
          obtain ⟨t1, ht1⟩ : ∃ t1, t1 = strOfNums [(xn : Int)] := ⟨_, rfl⟩
          have ht1s : t1.size = 1 := by rw [ht1]; rfl
          have hcat : ¬ 9223372036854775807 < sl.size + t1.size := by omega
          rw [← ht1]
          have HT1 := Lib.hid ht1
          clear ht1
          go_wp2_with fail
          go_roundw
          case rel =>
            refine ⟨k + 1, by omega, by go_num, ?_, HR⟩
            rw [HSL.out, HT1.out, HS.out, HT.out]
            rfl
          case measure => simp [intOf]; omega
        · have hp' : plainN (xn : Int).toNat = false := by rw [Int.toNat_natCast]; simpa using hp
          have ht : told1 xn = [37, hexC (xn / 16), hexC (xn % 16)] := by unfold told1; rw [Int.toNat_natCast, if_neg hp]
          have HT := Lib.hid ht
          clear ht hp
          have hpf : plainN xn = false := by rw [Int.toNat_natCast] at hp'; exact hp'
          have z1 : ¬ 9223372036854775807 < sl.size + 1 := by omega
          have z2 : ¬ 9223372036854775807 < sl.size + 1 + 1 := by omega
          have z3 : ¬ 9223372036854775807 < sl.size + 1 + 1 + 1 := by omega
          have d1 : xn / 16 < 16 := by omega
          have d2 : xn % 16 < 16 := by omega
          go_wp2_with fail
          refine start_ (n := 19) (S := fun w' => w'.cell? (ad.add k) = some (.int .u8 xn) ∧ Hid (Below w1.heap.size w1 w')) (ds := [18]) #[false, false, false, false, false, false, false, false, false, false, false, false, false, false, false, false, false, false, false] (by kernel_rfl) rfl rfl (⟨hc, Lib.hid (Below.refl _ _).drew⟩) (fun hHeld => ?_)
          refine pure_ (i := 0) (N := some 29) (v := ?_) (a' := ?_) #[true, false, false, false, false, false, false, false, false, false, false, false, false, false, false, false, false, false, false] rfl rfl (by kernel_rfl) (fun _ _ _ h => h) (Or.inl ⟨by rfl, ?_⟩) ?_ ?_
          rotate_left
          · intro w'
            go_simp
            with_reducible rfl
          rotate_left
          · simp only [Act.put, List.setIfInBounds_toArray, List.set_cons_zero, List.set_cons_succ, i64_w, i32_w]
            rfl
          refine pure_ (i := 1) (N := some 30) (v := ?_) (a' := ?_) #[true, true, false, false, false, false, false, false, false, false, false, false, false, false, false, false, false, false, false] rfl rfl (by kernel_rfl) (fun _ _ _ h => h) (Or.inl ⟨by rfl, ?_⟩) ?_ ?_
          rotate_left
          · intro w'
            go_simp
            with_reducible rfl
          rotate_left
          · simp only [Act.put, List.setIfInBounds_toArray, List.set_cons_zero, List.set_cons_succ, i64_w, i32_w]
            rfl
          refine pure_ (i := 2) (N := some 31) (v := ?_) (a' := ?_) #[true, true, true, false, false, false, false, false, false, false, false, false, false, false, false, false, false, false, false] rfl rfl (by kernel_rfl) (fun _ _ _ h => h) (Or.inl ⟨by rfl, ?_⟩) ?_ ?_
          rotate_left
          · intro w'
            go_simp
            with_reducible rfl
          rotate_left
          · simp only [Act.put, List.setIfInBounds_toArray, List.set_cons_zero, List.set_cons_succ, i64_w, i32_w]
            rfl
          refine pure_ (i := 3) (N := some 32) (v := ?_) (a' := ?_) #[true, true, true, true, false, false, false, false, false, false, false, false, false, false, false, false, false, false, false] rfl rfl (by kernel_rfl) (fun _ _ _ h => h) (Or.inl ⟨by rfl, ?_⟩) ?_ ?_
          rotate_left
          · intro w'
            go_simp
            with_reducible rfl
          rotate_left
          · simp only [Act.put, List.setIfInBounds_toArray, List.set_cons_zero, List.set_cons_succ, i64_w, i32_w]
            rfl
          refine pure_ (i := 4) (N := some 33) (v := ?_) (a' := ?_) #[true, true, true, true, true, false, false, false, false, false, false, false, false, false, false, false, false, false, false] rfl rfl (by kernel_rfl) (fun _ _ _ h => h) (Or.inl ⟨by rfl, ?_⟩) ?_ ?_
          rotate_left
          · intro w'
            go_simp
            with_reducible rfl
          rotate_left
          · simp only [Act.put, List.setIfInBounds_toArray, List.set_cons_zero, List.set_cons_succ, i64_w, i32_w]
            rfl
          refine pure_ (i := 10) (N := some 39) (v := ?_) (a' := ?_) #[true, true, true, true, true, false, false, false, false, false, true, false, false, false, false, false, false, false, false] rfl rfl (by kernel_rfl) (fun _ _ _ h => h) (Or.inl ⟨by rfl, ?_⟩) ?_ ?_
          rotate_left
          · intro w'
            go_simp
            with_reducible rfl
          rotate_left
          · simp only [Act.put, List.setIfInBounds_toArray, List.set_cons_zero, List.set_cons_succ, i64_w, i32_w]
            rfl
          refine pure_ (i := 11) (N := some 40) (v := ?_) (a' := ?_) #[true, true, true, true, true, false, false, false, false, false, true, true, false, false, false, false, false, false, false] rfl rfl (by kernel_rfl) (fun _ _ _ h => h) (Or.inl ⟨by rfl, ?_⟩) ?_ ?_
          rotate_left
          · intro w'
            go_simp
            with_reducible rfl
          rotate_left
          · simp only [Act.put, List.setIfInBounds_toArray, List.set_cons_zero, List.set_cons_succ, i64_w, i32_w]
            rfl
          refine pure_ (i := 12) (N := some 41) (v := ?_) (a' := ?_) #[true, true, true, true, true, false, false, false, false, false, true, true, true, false, false, false, false, false, false] rfl rfl (by kernel_rfl) (fun _ _ _ h => h) (Or.inl ⟨by rfl, ?_⟩) ?_ ?_
          rotate_left
          · intro w'
            go_simp
            with_reducible rfl
          rotate_left
          · simp only [Act.put, List.setIfInBounds_toArray, List.set_cons_zero, List.set_cons_succ, i64_w, i32_w]
            rfl
          refine take_ (i := 5) (N := some 34) (v := ?_) (a' := ?_) #[true, true, true, true, true, true, false, false, false, false, true, true, true, false, false, false, false, false, false] rfl rfl (by kernel_rfl) (fun _ _ _ h => h) (Or.inl ⟨by rfl, ?_⟩) hHeld ?_ ?_
          rotate_left
          · rintro w' ⟨s0, s1⟩
            go_simp
            with_reducible rfl
          rotate_left
          · simp only [Act.put, List.setIfInBounds_toArray, List.set_cons_zero, List.set_cons_succ, i64_w, i32_w]
            rfl
          refine pure_ (i := 6) (N := some 35) (v := ?_) (a' := ?_) #[true, true, true, true, true, true, true, false, false, false, true, true, true, false, false, false, false, false, false] rfl rfl (by kernel_rfl) (fun _ _ _ h => h) (Or.inl ⟨by rfl, ?_⟩) ?_ ?_
          rotate_left
          · intro w'
            go_simp
            with_reducible rfl
          rotate_left
          · simp only [Act.put, List.setIfInBounds_toArray, List.set_cons_zero, List.set_cons_succ, i64_w, i32_w]
            rfl
          refine pure_ (i := 7) (N := some 36) (v := ?_) (a' := ?_) #[true, true, true, true, true, true, true, true, false, false, true, true, true, false, false, false, false, false, false] rfl rfl (by kernel_rfl) (fun _ _ _ h => h) (Or.inl ⟨by rfl, ?_⟩) ?_ ?_
          rotate_left
          · intro w'
            go_simp
            with_reducible rfl
          rotate_left
          · simp only [Act.put, List.setIfInBounds_toArray, List.set_cons_zero, List.set_cons_succ, i64_w, i32_w]
            rfl
          refine take_ (i := 13) (N := some 42) (v := ?_) (a' := ?_) #[true, true, true, true, true, true, true, true, false, false, true, true, true, true, false, false, false, false, false] rfl rfl (by kernel_rfl) (fun _ _ _ h => h) (Or.inl ⟨by rfl, ?_⟩) hHeld ?_ ?_
          rotate_left
          · rintro w' ⟨s0, s1⟩
            go_simp
            with_reducible rfl
          rotate_left
          · simp only [Act.put, List.setIfInBounds_toArray, List.set_cons_zero, List.set_cons_succ, i64_w, i32_w]
            rfl
          refine pure_ (i := 14) (N := some 43) (v := ?_) (a' := ?_) #[true, true, true, true, true, true, true, true, false, false, true, true, true, true, true, false, false, false, false] rfl rfl (by kernel_rfl) (fun _ _ _ h => h) (Or.inl ⟨by rfl, ?_⟩) ?_ ?_
          rotate_left
          · intro w'
            go_simp
            with_reducible rfl
          rotate_left
          · simp only [Act.put, List.setIfInBounds_toArray, List.set_cons_zero, List.set_cons_succ, i64_w, i32_w]
            rfl
          refine pure_ (i := 15) (N := some 44) (v := ?_) (a' := ?_) #[true, true, true, true, true, true, true, true, false, false, true, true, true, true, true, true, false, false, false] rfl rfl (by kernel_rfl) (fun _ _ _ h => h) (Or.inl ⟨by rfl, ?_⟩) ?_ ?_
          rotate_left
          · intro w'
            go_simp
            with_reducible rfl
          rotate_left
          · simp only [Act.put, List.setIfInBounds_toArray, List.set_cons_zero, List.set_cons_succ, i64_w, i32_w]
            rfl
          refine one_ (i := 8) (N := some 37) #[true, true, true, true, true, true, true, true, true, false, true, true, true, true, true, true, false, false, false] rfl rfl (by kernel_rfl) (by decide) (fun K hK => ?_)
          refine goes_ Tryz.func86 (by kernel_rfl) rfl #[.int .i64 (wrap64 ((wrap64 (xn : Int)).tdiv 16))] (by rfl) rfl rfl (by simp only [List.map_toArray, List.map_cons, List.map_nil]; rfl) ?_
          with_reducible refine (rdigit_q xn hx1 _).mono ?_
          rintro e w2 ⟨rfl, hb2⟩
          refine ⟨_, rfl, ?_⟩
          have HB2 := Lib.hid hb2
          clear hb2
          refine hK.out _ _ (⟨keepA HB2.out hHeld.1, Lib.hid (belowT hHeld.2.out HB2.out)⟩) (fun hHeld => ?_)
          clear hK K
          refine norm_ (a' := ?_) ?_ ?_
          rotate_left
          · show Act.put _ (some 37) _ = _
            simp only [Act.put, List.setIfInBounds_toArray, List.set_cons_zero, List.set_cons_succ, i64_w, i32_w]
            rfl
          refine pure_ (i := 9) (N := some 38) (v := ?_) (a' := ?_) #[true, true, true, true, true, true, true, true, true, true, true, true, true, true, true, true, false, false, false] rfl rfl (by kernel_rfl) (fun _ _ _ h => h) (Or.inl ⟨by rfl, ?_⟩) ?_ ?_
          rotate_left
          · intro w'
            go_simp
            with_reducible rfl
          rotate_left
          · simp only [Act.put, List.setIfInBounds_toArray, List.set_cons_zero, List.set_cons_succ, i64_w, i32_w]
            rfl
          refine one_ (i := 16) (N := some 45) #[true, true, true, true, true, true, true, true, true, true, true, true, true, true, true, true, true, false, false] rfl rfl (by kernel_rfl) (by decide) (fun K hK => ?_)
          refine goes_ Tryz.func86 (by kernel_rfl) rfl #[.int .i64 ((wrap64 (xn : Int)).tmod 16)] (by rfl) rfl rfl (by simp only [List.map_toArray, List.map_cons, List.map_nil]; rfl) ?_
          with_reducible refine (rdigit_r xn hx1 _).mono ?_
          rintro e w3 ⟨rfl, hb3⟩
          refine ⟨_, rfl, ?_⟩
          have HB3 := Lib.hid hb3
          clear hb3
          refine hK.out _ _ (⟨keepA HB3.out hHeld.1, Lib.hid (belowT hHeld.2.out HB3.out)⟩) (fun hHeld => ?_)
          clear hK K
          refine norm_ (a' := ?_) ?_ ?_
          rotate_left
          · show Act.put _ (some 45) _ = _
            simp only [Act.put, List.setIfInBounds_toArray, List.set_cons_zero, List.set_cons_succ, i64_w, i32_w]
            rfl
          refine pure_ (i := 17) (N := some 46) (v := ?_) (a' := ?_) #[true, true, true, true, true, true, true, true, true, true, true, true, true, true, true, true, true, true, false] rfl rfl (by kernel_rfl) (fun _ _ _ h => h) (Or.inl ⟨by rfl, ?_⟩) ?_ ?_
          rotate_left
          · intro w'
            go_simp
            with_reducible rfl
          rotate_left
          · simp only [Act.put, List.setIfInBounds_toArray, List.set_cons_zero, List.set_cons_succ, i64_w, i32_w]
            rfl
          refine pure_ (i := 18) (N := some 3) (v := ?_) (a' := ?_) #[true, true, true, true, true, true, true, true, true, true, true, true, true, true, true, true, true, true, true] rfl rfl (by kernel_rfl) (fun _ _ _ h => h) (Or.inl ⟨by rfl, ?_⟩) ?_ ?_
          rotate_left
          · intro w'
            go_simp
            with_reducible rfl
          rotate_left
          · simp only [Act.put, List.setIfInBounds_toArray, List.set_cons_zero, List.set_cons_succ, i64_w, i32_w]
            rfl
          refine done_ (by kernel_rfl) ?_
          have HBf := Lib.hid (belowT HR.out hHeld.2.out)
          clear hHeld HB2 HB3
          go_wp2_with fail
          go_roundw
          case rel =>
            refine ⟨k + 1, by omega, by go_num, ?_, HBf⟩
            rw [HSL.out, HS.out, HT.out]
            refine congrArg Value.string (ba_ls ?_)
            simp [ByteArray.data_append]
          case measure => simp [intOf]; omega
      · obtain rfl : k = n := by omega
        have hd1 : decide ((k : Int) < k) = false := by simp
        have htk : xs.take k = xs := by rw [List.take_of_length_le]; rw [HL.out]; exact Nat.le_refl _
        rw [htk]
        have hto : told xs = toldL xs := by unfold told; rw [if_neg HNE.out]
        rw [← hto]
        go_wp2_with fail
        go_ret
        exact ⟨rfl, HR.out⟩
set_option maxRecDepth 100000 in
set_option maxHeartbeats 1000000 in
theorem rline26R_any (ver ty fl st ln : Nat) (A : Option Addr) (n c : Nat) (xs : List Int) (w : World) (hB : Rd w A n xs) (hcap : n ≤ c) (hver : ver ≤ 255) (hty : ty ≤ 255) (hfl : fl ≤ 65535) (hst : st ≤ 4294967295) (hln : ln ≤ 4294967295) :
    Calls Tryz.prog 16 #[frm ver ty fl st ln A n c] w fun e w' => e = .returned (.tuple (if (n : Int) = szF ty ln then #[.string ⟨(lineB ⟨ver, ty, fl, st, ln⟩ xs).toArray⟩, .int .i64 0] else #[.string ⟨#[]⟩, .int .i64 15])) ∧ Below w.heap.size w w' := by
  obtain ⟨w1, hw1⟩ : ∃ w1, w1 = w.alloc (.cells #[.int .u8 ver, .int .u8 ty, .int .u16 fl, .int .u32 st, .int .u32 ln, .slice A n c] 28) := ⟨_, rfl⟩
  have hx : FB w.heap.size ver ty fl st ln A n c w1 := by rw [hw1]; exact FB.new ..
  have hB1 : Below w.heap.size w w1 := by rw [hw1]; exact (Below.refl _ _).alloc (Nat.le_refl _) _
  have HE := Lib.hid hw1
  have HX := Lib.hid hx
  have HB1 := Lib.hid hB1
  have HBs := Lib.hid (hB.next hB1)
  clear hw1 hx hB1 hB
  go_enter Tryz.func16, Tryz.ntmps16
  obtain ⟨a0, a1, a2, a3, a4, a5⟩ := HX.out
  rw [HE.out] at a0 a1 a2 a3 a4 a5
  go_wp2_with fail
  rw [← HE.out]
  refine (rsize_any ver ty fl st ln _ (by omega) (by omega)).mono ?_
  rintro e w2 ⟨rfl, hb2⟩
  have HX2 := Lib.hid (HX.out.next hb2)
  have HB2 := Lib.hid (belowT HB1.out hb2)
  have HBs2 := Lib.hid (HBs.out.next hb2)
  clear hb2 HX HB1 HBs HE a0 a1 a2 a3 a4 a5
  obtain ⟨a0, a1, a2, a3, a4, a5⟩ := HX2.out
  by_cases hne : (n : Int) = szF ty ln
  · have hd : ((n : Int) != szF ty ln) = false := by simp [hne]
    have hnl : n ≤ 4294967295 := by unfold szF at hne; split at hne <;> omega
    have HNE := Lib.hid hne
    clear hne
    go_wp2_with fail
    refine (rtext_any ver ty fl st ln _ (by omega) (by omega) (by omega) (by omega) (by omega)).mono ?_
    rintro e w3 ⟨rfl, hb3⟩
    have HX3 := Lib.hid (HX2.out.next hb3)
    have HB3 := Lib.hid (belowT HB2.out hb3)
    have HBs3 := Lib.hid (HBs2.out.next hb3)
    clear hb3 HX2 HB2 HBs2 a0 a1 a2 a3 a4 a5
    obtain ⟨a0, a1, a2, a3, a4, a5⟩ := HX3.out
    by_cases ht : ty = 0
    · have hlb : lineB ⟨ver, ty, fl, st, ln⟩ xs = textB ver ty fl st ln ++ 32 :: told xs := by
        show lineB _ _ = _
        unfold lineB
        rw [if_pos ht]; rfl
      have htl : (textB ver ty fl st ln).length ≤ 420 := text_len ver ty fl st ln hver hty hfl hst hln
      have hdl := told_len xs
      rw [HBs3.out.len] at hdl
      have HLB := Lib.hid hlb
      subst ht
      go_wp2_with fail
      refine (rtoldR_any HBs3.out hcap hnl).mono ?_
      rintro e w4 ⟨rfl, hb4⟩
      have HB4 := Lib.hid (belowT HB3.out hb4)
      obtain ⟨sa, hsa⟩ : ∃ sa : ByteArray, sa = ⟨(textB ver 0 fl st ln).toArray⟩ := ⟨_, rfl⟩
      obtain ⟨sb, hsb⟩ : ∃ sb : ByteArray, sb = ⟨(told xs).toArray⟩ := ⟨_, rfl⟩
      have zs : sa.size ≤ 420 := by rw [hsa]; show (textB ver 0 fl st ln).toArray.size ≤ _; rw [List.size_toArray]; exact htl
      have zt : sb.size ≤ 3 * n + 1 := by rw [hsb]; show (told xs).toArray.size ≤ _; rw [List.size_toArray]; exact hdl
      have y1 : ¬ 9223372036854775807 < sa.size + 1 := by omega
      have y2 : ¬ 9223372036854775807 < sa.size + 1 + sb.size := by omega
      rw [← hsa, ← hsb]
      have HSA := Lib.hid hsa
      have HSB := Lib.hid hsb
      clear hb4 hsa hsb hlb htl hdl a0 a1 a2 a3 a4 a5
      go_wp2_with fail
      go_ret2
      refine ⟨?_, HB4.out⟩
      (try rw [if_pos HNE.out])
      rw [HLB.out, HSA.out, HSB.out]
      refine congrArg Ending.returned (congrArg Value.tuple (congrArg (fun x => #[x, Value.int .i64 0]) (congrArg Value.string (ba_ls ?_))))
      simp [ByteArray.data_append]
    · have hlb : lineB ⟨ver, ty, fl, st, ln⟩ xs = textB ver ty fl st ln := by
        show lineB _ _ = _
        unfold lineB
        rw [if_neg ht]; rfl
      have HLB := Lib.hid hlb
      have ht' : ((ty : Int) == 0) = false := by simp; omega
      clear hlb
      go_wp2_with fail
      go_ret2
      exact ⟨by (try rw [if_pos HNE.out]); rw [HLB.out]; rfl, HB3.out⟩
  · have hd : ((n : Int) != szF ty ln) = true := by simp [hne]
    have HNE := Lib.hid hne
    clear hne
    go_wp2_with fail
    go_ret2
    exact ⟨by (try rw [if_neg HNE.out]); rfl, HB2.out⟩

theorem dig10 : ∀ d : Fin 10, (⟨#[48, 49, 50, 51, 52, 53, 54, 55, 56, 57]⟩ : ByteArray).extract d.1 (d.1 + 1) = b1 d.1 := by decide +kernel
theorem dig_at {d : Nat} (h : d < 10) : (⟨#[48, 49, 50, 51, 52, 53, 54, 55, 56, 57]⟩ : ByteArray).extract d (d + 1) = b1 d := dig10 ⟨d, h⟩
set_option maxRecDepth 100000 in
set_option maxHeartbeats 1000000 in
theorem rdigits26 (n : Nat) (hn : n ≤ 4294967295) (w : World) :
    Calls Tryz.prog 72 #[.int .i64 n] w fun e w' => e = .returned (.string (dec n)) ∧ w' = w := by
  go_enter Tryz.func72, Tryz.ntmps72
  go_wp2_with fail
  go_loopw [0, 3] (fun m s wr => ∃ (k : Nat) (t : List UInt8), k ≤ 4294967295 ∧ m = .int .i64 k ∧ s = .string ⟨t.toArray⟩ ∧ Lib.decDigits n = Lib.decDigits k ++ t ∧ Hid (wr = w)) (fun m _ _ => (intOf m).toNat)
  case atStart => exact ⟨n, [], hn, rfl, rfl, by simp, Lib.hid rfl⟩
  case round =>
    obtain ⟨k, t, hk, rfl, rfl, ht, HB⟩ := hrel
    have hl : t.length ≤ 20 := by
      have h1 := congrArg List.length ht
      rw [List.length_append, Lib.decDigits_length, Lib.decDigits_length] at h1
      have h2 := Lib.nDigits_le20 n (by omega)
      omega
    have hz1 : (b1 k).size = 1 := rfl
    have hz2 : (b1 (k % 10)).size = 1 := rfl
    have HT := Lib.hid ht
    clear ht
    by_cases hlt : k < 10
    · have hx := dig_at hlt
      go_wp2_with fail
      go_ret
      refine ⟨?_, HB.out⟩
      show Ending.returned (Value.string (b1 k ++ ⟨t.toArray⟩)) = _
      rw [b1_app, dec, HT.out, dec_last k hlt]
      rfl
    · have hx := dig_at (show k % 10 < 10 by omega)
      go_wp2_with fail
      go_roundw
      case rel => exact ⟨k / 10, UInt8.ofNat (48 + k % 10) :: t, by omega, by go_num, by rw [b1_app], by rw [HT.out, dec_step k hlt, List.append_assoc]; rfl, HB⟩
      case measure => simp [intOf]; omega

theorem rname_any (c : Nat) (h1 : 11 ≤ c) (h2 : c ≤ 15) (w : World) :
    Calls Tryz.prog 71 #[.int .i64 c] w fun e w' => e = .returned (.string ⟨(whyW c).toArray⟩) ∧ w' = w := by
  obtain rfl | rfl | rfl | rfl | rfl : c = 11 ∨ c = 12 ∨ c = 13 ∨ c = 14 ∨ c = 15 := by omega
  all_goals
    go_enter Tryz.func71, Tryz.ntmps71
    go_wp2_with fail
    go_ret
    exact ⟨rfl, rfl⟩
/-- What the reference tells of frames and of the violation behind them. -/
def rtellL (fs : List Fr) (c : Nat) (st : Int) : List UInt8 := tellL fs ++ if c = 0 then [] else brokenL c st
theorem whyW_len (c : Nat) : (whyW c).length ≤ 10 := by unfold whyW; split <;> (try split) <;> (try split) <;> (try split) <;> decide
set_option maxRecDepth 100000 in
set_option maxHeartbeats 2000000 in
theorem rtold26_any {most : Int} {w : World} {ok : Nat → Prop} {A : Option Addr} {n cc : Nat} {fs : List Fr} (hn : n = fs.length) (hF : Kd.F kFr w ok A n fs) (hall : ∀ p ∈ fs, FOk most p) (hlen : (flat fs).length ≤ 1099511627776) (c : Nat) (st : Nat) (hs : st ≤ 4294967295) (hc : c = 0 ∨ 11 ≤ c ∧ c ≤ 15) (why : Int) (hw : why = if c = 0 then 0 else 1000 + (c : Int)) :
    Calls Tryz.prog 35 #[.slice A n cc, .int .i64 why, .int .u32 st] w fun e w' => e = .returned (.string ⟨(rtellL fs c st).toArray⟩) ∧ Below w.heap.size w w' := by
  subst hn
  have HF := Lib.hid hF
  have HA := Lib.hid hall
  have HL := Lib.hid hlen
  have hfl : fs.length ≤ 1099511627776 := by have := flat_cnt fs; omega
  clear hF hall hlen
  have H2 := Lib.hid hc
  have HW := Lib.hid hw
  clear hc hw
  go_enter Tryz.func35, Tryz.ntmps35
  go_wp2_with fail
  go_loopw [7, 8] (fun s i wr => ∃ k : Nat, k ≤ fs.length ∧ i = .int .i64 k ∧ s = .string ⟨(tellL (fs.take k)).toArray⟩ ∧ Hid (Below w.heap.size w wr)) (fun _ i _ => fs.length - (intOf i).toNat)
  case atStart => exact ⟨0, by omega, rfl, by rw [List.take_zero]; rfl, Lib.hid (Below.refl _ _)⟩
  case round =>
    obtain ⟨k, hk, rfl, rfl, HBr⟩ := hrel
    by_cases hlt : k < fs.length
    · have hd2 : decide ((k : Int) < fs.length) = true := by simp; omega
      have hk0 : (0 : Int) ≤ (k : Int) := by omega
      have hk1 : (k : Int) < (fs.length : Int) := by omega
      have HFr := Lib.hid (Kd.F_below HF.out HBr.out)
      obtain ⟨p, hp⟩ : ∃ p, p = rd_T28 fs k := ⟨_, rfl⟩
      obtain ⟨a, A5, c5, rfl, a0, a1, a2, a3, a4, a5, al, aF⟩ := at_F HFr.out k hk0 hk1
      rw [← hp] at a0 a1 a2 a3 a4 a5 al aF
      simp only [Int.toNat_natCast] at a0 a1 a2 a3 a4 a5
      have hpj : p = fs[k] := by
        rw [hp]; unfold rd_T28
        rw [Int.toNat_natCast, List.getD_eq_getElem?_getD, List.getElem?_eq_getElem hlt]
        rfl
      have hpo := HA.out p (by rw [hpj]; exact List.getElem_mem hlt)
      have hts : fs.take (k + 1) = fs.take k ++ [p] := by rw [hpj]; exact List.take_succ_eq_append_getElem hlt
      have hb1 := tellL_len (fs.take k ++ [p]) (fun q hq => HA.out q (by rw [← hts] at hq; exact List.mem_of_mem_take hq))
      have hb2 : (flat (fs.take k ++ [p])).length ≤ (flat fs).length := by
        rw [← hts]
        conv => rhs; rw [← List.take_append_drop (k + 1) fs, flat_app, List.length_append]
        omega
      have hbd := fok_bd hpo
      have hsz := hpo.sz
      have hRd := F_rd aF hpo.byt
      have htl : (tellL (fs.take k)).length + (lineF p).length + 1 ≤ 44000000000000 := by
        rw [tellL_snoc] at hb1
        simp only [List.length_append, List.length_cons, List.length_nil] at hb1
        have := HL.out
        omega
      have hI := hpo.hd
      obtain ⟨ver, hver⟩ : ∃ ver : Nat, p.f0.f0 = ver := ⟨p.f0.f0.toNat, by have := hI.v0; omega⟩
      obtain ⟨ty, htyn⟩ : ∃ ty : Nat, p.f0.f1 = ty := ⟨p.f0.f1.toNat, by have := hI.t0; omega⟩
      obtain ⟨fl, hfln⟩ : ∃ fl : Nat, p.f0.f2 = fl := ⟨p.f0.f2.toNat, by have := hI.f0; omega⟩
      obtain ⟨st', hstn⟩ : ∃ st' : Nat, p.f0.f3 = st' := ⟨p.f0.f3.toNat, by have := hI.s0; omega⟩
      obtain ⟨ln, hlnn⟩ : ∃ ln : Nat, p.f0.f4 = ln := ⟨p.f0.f4.toNat, by have := hI.l0; omega⟩
      obtain ⟨pd, hpd⟩ : ∃ pd, pd = p.f1 := ⟨_, rfl⟩
      have hline : lineF p = lineB ⟨ver, ty, fl, st', ln⟩ pd := by unfold lineF hdF; rw [hver, htyn, hfln, hstn, hlnn, hpd]; rfl
      rw [hver] at a0 hbd
      rw [htyn] at a1 hbd hsz
      rw [hfln] at a2 hbd
      rw [hstn] at a3 hbd
      rw [hlnn] at a4 hbd hsz
      rw [← hpd] at a5 al hsz hRd
      rw [hline] at htl
      simp only [Int.toNat_natCast] at hbd
      obtain ⟨d0, d1, d2, d3, d4⟩ := hbd
      obtain ⟨t1, ht1⟩ : ∃ t1 : ByteArray, t1 = ⟨(tellL (fs.take k)).toArray⟩ := ⟨_, rfl⟩
      obtain ⟨t2, ht2⟩ : ∃ t2 : ByteArray, t2 = ⟨(lineB ⟨ver, ty, fl, st', ln⟩ pd).toArray⟩ := ⟨_, rfl⟩
      have hz1 : t1.size = (tellL (fs.take k)).length := by rw [ht1]; show (tellL (fs.take k)).toArray.size = _; rw [List.size_toArray]
      have hz2 : t2.size = (lineB ⟨ver, ty, fl, st', ln⟩ pd).length := by rw [ht2]; show (lineB ⟨ver, ty, fl, st', ln⟩ pd).toArray.size = _; rw [List.size_toArray]
      have y1 : ¬ 9223372036854775807 < t1.size + t2.size := by omega
      have y2 : ¬ 9223372036854775807 < t1.size + t2.size + 1 := by omega
      have HTS := Lib.hid (show t1 ++ t2 ++ ⟨#[10]⟩ = (⟨(tellL (fs.take (k + 1))).toArray⟩ : ByteArray) by
        rw [ht1, ht2, hts, tellL_snoc, hline]
        apply ByteArray.ext
        simp [ByteArray.data_append])
      have HT2 := Lib.hid ht2
      have HSZ := Lib.hid hsz
      have HRD := Lib.hid hRd
      rw [← ht1]
      clear hp hpj hpo hts hb1 hb2 hsz hRd htl hI hver htyn hfln hstn hlnn hpd hline aF ht1 ht2 hz1 hz2
      go_wp2_with fail
      refine (rline26R_any ver ty fl st' ln A5 pd.length c5 pd wr HRD.out al (by omega) (by omega) (by omega) (by omega) (by omega)).mono ?_
      rintro e w4 ⟨rfl, hb4⟩
      rw [if_pos HSZ.out, ← HT2.out]
      have HB4 := Lib.hid (belowT HBr.out hb4)
      clear hb4
      go_wp2_with fail
      go_roundw
      case rel => exact ⟨k + 1, by omega, by go_num, by rw [HTS.out], HB4⟩
      case measure => simp [intOf]; omega
    · obtain rfl : k = fs.length := by omega
      have hd2 : decide ((fs.length : Int) < (fs.length : Int)) = false := by simp
      have ht : fs.take fs.length = fs := List.take_length
      have htl := tellL_len fs HA.out
      rw [ht]
      obtain ⟨t1, ht1⟩ : ∃ t1 : ByteArray, t1 = ⟨(tellL fs).toArray⟩ := ⟨_, rfl⟩
      have hz1 : t1.size = (tellL fs).length := by rw [ht1]; show (tellL fs).toArray.size = _; rw [List.size_toArray]
      have hz1' : t1.size ≤ 44000000000000 := by have := HL.out; omega
      have HT1 := Lib.hid ht1
      rw [← ht1]
      clear ht ht1 hz1 htl
      rcases H2.out with rfl | ⟨h11, h15⟩
      · have hwy : why = 0 := HW.out
        subst hwy
        go_wp2_with fail
        go_ret
        exact ⟨by rw [HT1.out]; unfold rtellL; rw [if_pos rfl, List.append_nil]; rfl, HBr.out⟩
      · have hg3 : IntKind.i64.wrap (st : Int) = st := by rw [IntKind.wrap_i64]; omega
        have hwl := whyW_len c
        obtain ⟨t2, ht2⟩ : ∃ t2 : ByteArray, t2 = ⟨(whyW c).toArray⟩ := ⟨_, rfl⟩
        have hz2 : t2.size ≤ 10 := by rw [ht2]; show (whyW c).toArray.size ≤ _; rw [List.size_toArray]; exact hwl
        have hz3 : (dec st).size ≤ 20 := dec_sml st (by omega)
        obtain ⟨t3, ht3⟩ : ∃ t3 : ByteArray, t3 = dec st := ⟨_, rfl⟩
        rw [← ht3] at hz3
        have HT2 := Lib.hid ht2
        have HT3 := Lib.hid ht3
        clear ht2 ht3 hwl
        have z1 : ¬ 9223372036854775807 < t1.size + 8 := by omega
        have z2 : ¬ 9223372036854775807 < t1.size + 8 + t2.size := by omega
        have z3 : ¬ 9223372036854775807 < t1.size + 8 + t2.size + 8 := by omega
        have z4 : ¬ 9223372036854775807 < t1.size + 8 + t2.size + 8 + t3.size := by omega
        have z5 : ¬ 9223372036854775807 < t1.size + 8 + t2.size + 8 + t3.size + 1 := by omega
        have HX := Lib.hid (rname_any c h11 h15 wr)
        have HFI : Hid (t1 ++ ⟨#[35, 98, 114, 111, 107, 101, 110, 32]⟩ ++ t2 ++ ⟨#[32, 115, 116, 114, 101, 97, 109, 32]⟩ ++ t3 ++ ⟨#[10]⟩ = (⟨(rtellL fs c st).toArray⟩ : ByteArray)) := by
          rw [HT1.out, HT2.out, HT3.out]
          refine Lib.hid (ba_ls ?_)
          unfold rtellL
          rw [if_neg (by omega)]
          unfold brokenL
          simp only [join_two, join_one]
          simp [ByteArray.data_append, dec, wBroken, wStream]
        rw [← HT2.out] at HX
        obtain rfl | rfl | rfl | rfl | rfl : c = 11 ∨ c = 12 ∨ c = 13 ∨ c = 14 ∨ c = 15 := by omega
        all_goals
          have hwy := HW.out
          first | (obtain rfl : why = 1011 := hwy) | (obtain rfl : why = 1012 := hwy) | (obtain rfl : why = 1013 := hwy) | (obtain rfl : why = 1014 := hwy) | (obtain rfl : why = 1015 := hwy)
          go_wp2_with fail
          refine HX.out.mono ?_
          rintro e w4 ⟨rfl, rfl⟩
          go_wp2_with fail
          refine (rdigits26 st hs w4).mono ?_
          rintro e w4 ⟨rfl, rfl⟩
          rw [← HT3.out]
          go_wp2_with fail
          go_ret
          exact ⟨by rw [← HFI.out]; rfl, HBr.out⟩
theorem tseen_frames {sa : Nat → Addr} {w0 w : World} {g gd b : Nat} {most : Int} {xs : List Int} {v : Value} (h : TapV sa w0 w g gd most xs v b) (hx : ∀ x ∈ xs, 0 ≤ x ∧ x ≤ 255) (k : Nat) (hk : k ≤ 255) :
    Calls Tryz.prog 40 #[.pointer (some ⟨g, 0, none⟩), .int .u8 k] w fun e w' => e = .returned (.tuple #[.int .i64 (cntF k (framesX most xs)), .int .i64 (sizF k (framesX most xs))]) ∧ Below w.heap.size w w' := by
  refine (tseen_any h k hk).mono ?_
  rintro e w' ⟨rfl, hb⟩
  refine ⟨?_, hb⟩
  by_cases h4 : k < 4
  · rw [if_pos h4, if_pos h4]
  · obtain ⟨e1, e2⟩ := cnt_four (cut_all most xs hx).1 k h4
    have e1' : cntF k (framesX most xs) = 0 := e1
    have e2' : sizF k (framesX most xs) = 0 := e2
    rw [if_neg h4, if_neg h4, e1', e2']
    rfl
set_option maxRecDepth 100000 in
set_option maxHeartbeats 2000000 in
theorem seen_yes {sa : Nat → Addr} {w0 w : World} {g gd b : Nat} {most : Int} {xs : List Int} {v : Value} {ok : Nat → Prop} {A : Option Addr} {n cc : Nat} {fs : List Fr} (h : TapV sa w0 w g gd most xs v b) (hx : ∀ x ∈ xs, 0 ≤ x ∧ x ≤ 255) (hfs : fs = framesX most xs) (hn : n = fs.length) (hF : Kd.F kFr w ok A n fs) (hlen : (flat fs).length ≤ 1099511627776) :
    Calls Tryz.prog 37 #[.pointer (some ⟨g, 0, none⟩), .slice A n cc] w fun e w' => e = .returned (.bool true) ∧ Below w.heap.size w w' := by
  subst hn
  have hall : ∀ p ∈ fs, FOk most p := by rw [hfs]; exact (cut_all most xs hx).1
  have HV := Lib.hid h
  have HX := Lib.hid hx
  have HFS := Lib.hid hfs
  have HF := Lib.hid hF
  have HA := Lib.hid hall
  have HL := Lib.hid hlen
  have hfl : fs.length ≤ 1099511627776 := by have := flat_cnt fs; omega
  clear h hx hfs hF hall hlen
  go_enter Tryz.func37, Tryz.ntmps37
  go_wp2_with fail
  go_loopw [5] (fun kk wr => ∃ k : Nat, k ≤ 256 ∧ kk = .int .i64 k ∧ Hid (Below w.heap.size w wr)) (fun kk _ => 256 - (intOf kk).toNat)
  case atStart => exact ⟨0, by omega, rfl, Lib.hid (Below.refl _ _)⟩
  case round =>
    obtain ⟨kd, hkd, rfl, HBr⟩ := hrel
    by_cases hlt0 : kd < 256
    · have hd1 : decide ((kd : Int) < 256) = true := by simp; omega
      go_wp2_with fail
      go_loopw [6, 7, 8] (fun nn sz i wq => ∃ k : Nat, k ≤ fs.length ∧ i = .int .i64 k ∧ nn = .int .i64 (cntF kd (fs.take k)) ∧ sz = .int .i64 (sizF kd (fs.take k)) ∧ Hid (Below w.heap.size w wq)) (fun _ _ i _ => fs.length - (intOf i).toNat)
      case atStart => exact ⟨0, by omega, rfl, rfl, rfl, HBr⟩
      case round =>
        obtain ⟨k, hk, rfl, rfl, rfl, HBq⟩ := hrel
        by_cases hlt : k < fs.length
        · have hd2 : decide ((k : Int) < fs.length) = true := by simp; omega
          have hk0 : (0 : Int) ≤ (k : Int) := by omega
          have hk1 : (k : Int) < (fs.length : Int) := by omega
          have HFr := Lib.hid (Kd.F_below HF.out HBq.out)
          obtain ⟨p, hp⟩ : ∃ p, p = rd_T28 fs k := ⟨_, rfl⟩
          obtain ⟨a, A5, c5, rfl, a0, a1, a2, a3, a4, a5, al, aF⟩ := at_F HFr.out k hk0 hk1
          rw [← hp] at a1 a5
          simp only [Int.toNat_natCast] at a1 a5
          have hpj : p = fs[k] := by
            rw [hp]; unfold rd_T28
            rw [Int.toNat_natCast, List.getD_eq_getElem?_getD, List.getElem?_eq_getElem hlt]
            rfl
          have hpo := HA.out p (by rw [hpj]; exact List.getElem_mem hlt)
          have hts : fs.take (k + 1) = fs.take k ++ [p] := by rw [hpj]; exact List.take_succ_eq_append_getElem hlt
          have hcs := cntF_snoc kd (fs.take k) p
          have hss := sizF_snoc kd (fs.take k) p
          rw [← hts] at hcs hss
          have hc1 := cntF_le (kd : Int) (fs.take (k + 1))
          have hs1 := sizF_le (kd : Int) (fs.take (k + 1))
          have hfl1 := flat_take_le' fs (k + 1)
          have hc2 : (fs.take (k + 1)).length ≤ fs.length := by rw [List.length_take]; omega
          have hty := fok_ty hpo
          obtain ⟨ty, htyn⟩ : ∃ ty : Nat, p.f0.f1 = ty := ⟨p.f0.f1.toNat, by omega⟩
          have hty3 : ty ≤ 3 := by omega
          obtain ⟨pl, hpl⟩ : ∃ pl : Nat, pl = p.f1.length := ⟨_, rfl⟩
          rw [htyn] at a1 hcs hss
          rw [← hpl] at a5 hss
          obtain ⟨cn, hcn⟩ : ∃ cn : Nat, cn = cntF kd (fs.take k) := ⟨_, rfl⟩
          obtain ⟨sn, hsn⟩ : ∃ sn : Nat, sn = sizF kd (fs.take k) := ⟨_, rfl⟩
          rw [← hcn] at hcs ⊢
          rw [← hsn] at hss ⊢
          obtain ⟨cn', hcn'⟩ : ∃ cn' : Nat, cn' = cntF kd (fs.take (k + 1)) := ⟨_, rfl⟩
          obtain ⟨sn', hsn'⟩ : ∃ sn' : Nat, sn' = sizF kd (fs.take (k + 1)) := ⟨_, rfl⟩
          rw [← hcn'] at hcs hc1
          rw [← hsn'] at hss hs1
          have hLL := HL.out
          have HC' := Lib.hid hcn'
          have HS' := Lib.hid hsn'
          clear hp hpj hpo hts hcn hsn hcn' hsn' htyn hpl hty a0 a2 a3 a4 al aF
          have hwt : wrap64 (ty : Int) = ty := wrap64_three hty3
          by_cases hkt : ty = kd
          · subst hkt
            have hdt : (wrap64 (ty : Int) == (ty : Int)) = true := by rw [hwt]; exact beq_self_eq_true _
            clear hwt
            rw [if_pos rfl] at hcs hss
            have hw1 : IntKind.i64.wrap ((cn : Int) + 1) = (cn : Int) + 1 := by rw [IntKind.wrap_i64]; omega
            have hw2 : IntKind.i64.wrap ((sn : Int) + (pl : Int)) = (sn : Int) + (pl : Int) := by rw [IntKind.wrap_i64]; omega
            have H1 := Lib.hid hcs
            have H2 := Lib.hid hss
            clear hcs hss hc1 hs1
            go_wp2_with fail
            clear hw1 hw2 hdt
            go_roundw
            case rel => exact ⟨k + 1, by omega, by go_num, by rw [← HC'.out, H1.out, Int.natCast_add]; rfl, by rw [← HS'.out, H2.out, Int.natCast_add], HBq⟩
            case measure => simp [intOf]; omega
          · have hdt : (wrap64 (ty : Int) == (kd : Int)) = false := by rw [hwt]; exact beq_false_of_ne fun e => hkt (Int.ofNat.inj e)
            clear hwt
            have hne : ¬ ((ty : Int) = (kd : Int)) := fun e => hkt (Int.ofNat.inj e)
            rw [if_neg hne, Nat.add_zero] at hcs hss
            clear hne
            have H1 := Lib.hid hcs
            have H2 := Lib.hid hss
            clear hcs hss hc1 hs1
            go_wp2_with fail
            go_roundw
            case rel => exact ⟨k + 1, by omega, by go_num, by rw [← HC'.out, H1.out], by rw [← HS'.out, H2.out], HBq⟩
            case measure => simp [intOf]; omega
        · obtain rfl : k = fs.length := by omega
          have hd2 : decide ((fs.length : Int) < (fs.length : Int)) = false := by simp
          have ht : fs.take fs.length = fs := List.take_length
          rw [ht]
          have hwk : IntKind.u8.wrap (kd : Int) = kd := by simp [IntKind.wrap, IntKind.bits, IntKind.signed]; omega
          have hs := tseen_frames (HV.out.below HBq.out) HX.out kd (by omega)
          rw [← HFS.out] at hs
          obtain ⟨cn, hcn⟩ : ∃ cn : Nat, cn = cntF kd fs := ⟨_, rfl⟩
          obtain ⟨sn, hsn⟩ : ∃ sn : Nat, sn = sizF kd fs := ⟨_, rfl⟩
          rw [← hcn, ← hsn] at hs ⊢
          have HS := Lib.hid hs
          clear hs hcn hsn ht
          go_wp2_with fail
          refine HS.out.mono ?_
          rintro e w7 ⟨rfl, hb7⟩
          have HB7 := Lib.hid (belowT HBq.out hb7)
          clear hb7
          go_wp2_with fail
          go_roundw
          case rel => exact ⟨kd + 1, by omega, by go_num, HB7⟩
          case measure => simp [intOf]; omega
    · obtain rfl : kd = 256 := by omega
      have hd1 : decide (((256 : Nat) : Int) < 256) = false := by simp
      go_wp2_with fail
      go_ret
      exact ⟨rfl, HBr.out⟩
end Go.Proofs.YtidmgckmphcegaaGreatDoor
