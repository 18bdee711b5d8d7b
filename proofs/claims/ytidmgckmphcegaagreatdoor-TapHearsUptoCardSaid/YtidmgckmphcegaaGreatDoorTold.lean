/-
  culvertref05.Say.
-/
import Derived.Test.YtidmgckmphcegaaGreatDoorMC
import Derived.Test.YtidmgckmphcegaaGreatDoorMB
import Derived.Test.YtidmgckmphcegaaGreatDoorMW
namespace Go.Proofs.YtidmgckmphcegaaGreatDoor
open Go.RowKit Go.Proofs.YtidmgckmphcegaaGreatDoorW.PrintWords Go.Proofs.YtidmgckmphcegaaGreatDoorW.PrintLast Go.Proofs.YtidmgckmphcegaaGreatDoorW.PrintMore Go.Proofs.YtidmgckmphcegaaGreatDoor.Px
set_option linter.unusedVariables false
set_option linter.unusedSimpArgs false
abbrev rdec (most : Int) (A : Option Addr) (n c : Nat) : Obj := .cells #[.int .i64 most, .slice A n c] 65 (0, 0)
abbrev rtold (u : Value) (r y : Int) (s : Int) : Obj := .cells #[u, .int .i64 r, .int .i64 y, .int .u32 s] 69 (0, 0)
theorem framesX_le (most : Int) (xs : List Int) : (framesX most xs).length ≤ xs.length := by have := cut_len most xs; unfold framesX; omega
/-- The loop's state: k bytes are read, fs are the frames so far, u the list. -/
structure TS (w wr : World) (most : Int) (A : Option Addr) (n c : Nat) (xs : List Int) (k : Nat) (u : Value) (fs : List Fr) : Prop where
  below : Below w.heap.size w wr
  dbx : wr.heap[w.heap.size]? = some (rdec most A n c)
  res : wr.heap[w.heap.size + 1]? = some (rtold (.slice none 0 0) 0 0 0)
  tld : wr.heap[w.heap.size + 1 + 1]? = some (rtold u 0 0 0)
  out : Kd.N kFr 28 wr w.heap.size (fun k => w.heap.size + 3 ≤ k) u fs
  cut : cut most xs = (fs ++ (cut most (xs.drop k)).1, (cut most (xs.drop k)).2)
  le : k ≤ xs.length
theorem TS.step {w wr w1 : World} {most : Int} {A : Option Addr} {n c k : Nat} {xs : List Int} {u : Value} {fs : List Fr} (h : TS w wr most A n c xs k u fs) (hb : Below wr.heap.size wr w1) : TS w w1 most A n c xs k u fs :=
  ⟨belowT h.below hb, keepB hb h.dbx, keepB hb h.res, keepB hb h.tld, Kd.N_below h.out hb, h.cut, h.le⟩
theorem TS.start {w w3 : World} {most : Int} {A : Option Addr} {n c : Nat} {xs : List Int} (hw3 : w3 = ((w.alloc (.cells #[.int .i64 most, .slice A n c] 65)).alloc (.cells #[.slice none 0 0, .int .i64 0, .int .i64 0, .int .u32 0] 69)).alloc (.cells #[.slice none 0 0, .int .i64 0, .int .i64 0, .int .u32 0] 69)) :
    TS w w3 most A n c xs 0 (.slice none 0 0) [] := by
  have s1 : (w.alloc (.cells #[.int .i64 most, .slice A n c] 65)).heap.size = w.heap.size + 1 := by simp
  have s2 : ((w.alloc (.cells #[.int .i64 most, .slice A n c] 65)).alloc (.cells #[.slice none 0 0, .int .i64 0, .int .i64 0, .int .u32 0] 69)).heap.size = w.heap.size + 1 + 1 := by simp
  have h1 := alloc_at w (.cells #[.int .i64 most, .slice A n c] 65)
  have h2 := alloc_at (w.alloc (.cells #[.int .i64 most, .slice A n c] 65)) (.cells #[.slice none 0 0, .int .i64 0, .int .i64 0, .int .u32 0] 69)
  have h3 := alloc_at ((w.alloc (.cells #[.int .i64 most, .slice A n c] 65)).alloc (.cells #[.slice none 0 0, .int .i64 0, .int .i64 0, .int .u32 0] 69)) (.cells #[.slice none 0 0, .int .i64 0, .int .i64 0, .int .u32 0] 69)
  rw [s1] at h2
  rw [s2] at h3
  rw [hw3]
  refine ⟨(((Below.refl _ _).alloc (Nat.le_refl _) _).alloc (by simp) _).alloc (by simp <;> omega) _, ?_, ?_, h3, Kd.N_nil _ _ _ _ _, by simp, by omega⟩
  · rw [blk_old _ (by rw [s2]; omega), blk_old _ (by rw [s1]; omega)]; exact h1
  · rw [blk_old _ (by rw [s2]; omega)]; exact h2
theorem TS.next {w w7 w8 : World} {most : Int} {A : Option Addr} {n c k m : Nat} {xs rest : List Int} {u v8 : Value} {fs : List Fr} {p : Fr} (h : TS w w7 most A n c xs k u fs) (hr : rest = xs.drop k) (h12 : ¬ rest.length < 12) (hz : chkX most rest = 0) (hp : ¬ rest.length - 12 < szX rest) (hm : m = 12 + szX rest)
    (hx : p = ⟨hdOf rest, (rest.drop 12).take (szX rest)⟩) (hb : Below w.heap.size w w8) (hg : w7.grownBy w8 u.ownBlock) (hN : Kd.N kFr 28 w8 w.heap.size (fun k => w.heap.size + 3 ≤ k) v8 (fs ++ [p])) :
    TS w (w8.setCell ⟨w.heap.size + 1 + 1, 0, none⟩ v8) most A n c xs (k + m) v8 (fs ++ [p]) := by
  have hu : ∀ j, u.ownBlock = some j → w.heap.size + 3 ≤ j := fun j hj => h.out.1 j hj
  have hk : ∀ j o, j < w.heap.size + 3 → w7.heap[j]? = some o → w8.heap[j]? = some o := fun j o hj ho => (hg.block j (Array.getElem?_eq_some_iff.1 ho).1 (fun e => by have := hu j e.symm; omega)).trans ho
  have hl : rest.length = xs.length - k := by rw [hr, List.length_drop]
  refine ⟨hb.setCell (by simp <;> omega) _, ?_, ?_, set_blk _ (hk _ _ (by omega) h.tld), ?_, ?_, by have := h.le; omega⟩
  · rw [set_other _ (by omega)]; exact hk _ _ (by omega) h.dbx
  · rw [set_other _ (by omega)]; exact hk _ _ (by omega) h.res
  · exact Kd.N_step hN fun j hj _ => set_other _ (by omega)
  · rw [h.cut, ← hr, cut_go h12 hz hp, ← hm, ← hx, hr, List.drop_drop]
    simp
set_option maxRecDepth 100000 in
set_option maxHeartbeats 4000000 in
theorem say05_any {w : World} (most : Int) (A : Option Addr) (n c : Nat) (xs : List Int) (hB : Bs w A n c xs) (m1 : 1 ≤ most) (m2 : most ≤ 65536) (hn : n ≤ 1000000000) :
    Calls Tryz.prog 33 #[.agg #[.int .i64 most, .slice A n c]] w fun e w' => ∃ fv, e = .returned (.agg #[fv, .int .i64 (restX most xs).length, .int .i64 (whyX most xs), .int .u32 (stX most xs)]) ∧ Kd.N kFr 28 w' w.heap.size (fun k => w.heap.size ≤ k) fv (framesX most xs) ∧ Below w.heap.size w w' := by
  have HBs := Lib.hid (show Up w (fun W => Bs W A n c xs) from fun W hb => hB.next hb)
  have HX := Lib.hid hB.byt
  obtain rfl := hB.len
  have hcap := hB.cap
  have hmax := hB.max
  clear hB
  go_enter Tryz.func33, Tryz.ntmps33
  go_wp2_with fail
  obtain ⟨w3, hw3⟩ : ∃ w3, w3 = ((w.alloc (.cells #[.int .i64 most, .slice A xs.length c] 65)).alloc (.cells #[.slice none 0 0, .int .i64 0, .int .i64 0, .int .u32 0] 69)).alloc (.cells #[.slice none 0 0, .int .i64 0, .int .i64 0, .int .u32 0] 69) := ⟨_, rfl⟩
  have HS := Lib.hid (TS.start (xs := xs) hw3)
  rw [← hw3]
  clear hw3
  go_loopw [4] (fun at_ wr => ∃ (k : Nat) (u : Value) (fs : List Fr), at_ = .int .i64 k ∧ Hid (TS w wr most A xs.length c xs k u fs)) (fun at_ _ => xs.length - (intOf at_).toNat)
  case atStart => exact ⟨0, _, _, rfl, HS⟩
  case round =>
    obtain ⟨k, u, fs, rfl, HT⟩ := hrel
    have hk := HT.out.le
    obtain ⟨Au, cu, rfl, _⟩ := Kd.N_reads HT.out.out
    obtain ⟨rest, hrest⟩ : ∃ rest, rest = xs.drop k := ⟨_, rfl⟩
    have hrl : rest.length = xs.length - k := by rw [hrest, List.length_drop]
    have HR := Lib.hid hrest
    have HRL := Lib.hid hrl
    have p0 : wr.cell? ⟨w.heap.size, 0, none⟩ = some (.int .i64 most) := cell_blk HT.out.dbx rfl
    have p1 : wr.cell? ⟨w.heap.size, 1, none⟩ = some (.slice A xs.length c) := cell_blk HT.out.dbx rfl
    have hw1 : IntKind.i64.wrap ((xs.length : Int) - k) = xs.length - k := by rw [IntKind.wrap_i64]; omega
    clear hrest hrl
    by_cases h12 : xs.length - k < 12
    · have hd1 : decide ((12 : Int) ≤ (xs.length : Int) - k) = false := by simp; omega
      have hcut := HT.out.cut
      rw [← HR.out, cut_short (xs := rest) (by rw [HRL.out]; exact h12)] at hcut
      have HC := Lib.hid hcut
      clear hcut
      have t0 : wr.cell? ⟨w.heap.size + 1 + 1, 0, none⟩ = some (.slice Au fs.length cu) := cell_blk HT.out.tld rfl
      have t1 : wr.cell? ⟨w.heap.size + 1 + 1, 1, none⟩ = some (.int .i64 0) := cell_blk HT.out.tld rfl
      have t2 : wr.cell? ⟨w.heap.size + 1 + 1, 2, none⟩ = some (.int .i64 0) := cell_blk HT.out.tld rfl
      have t3 : wr.cell? ⟨w.heap.size + 1 + 1, 3, none⟩ = some (.int .u32 0) := cell_blk HT.out.tld rfl
      have r0 : wr.cell? ⟨w.heap.size + 1, 0, none⟩ = some (.slice none 0 0) := cell_blk HT.out.res rfl
      have r1 : wr.cell? ⟨w.heap.size + 1, 1, none⟩ = some (.int .i64 0) := cell_blk HT.out.res rfl
      have r2 : wr.cell? ⟨w.heap.size + 1, 2, none⟩ = some (.int .i64 0) := cell_blk HT.out.res rfl
      have r3 : wr.cell? ⟨w.heap.size + 1, 3, none⟩ = some (.int .u32 0) := cell_blk HT.out.res rfl
      have f1 : ∀ j, wr.frozen? ⟨w.heap.size + 1 + 1, j, none⟩ = false := fun j => free_blk HT.out.tld
      have f2 : ∀ j, wr.frozen? ⟨w.heap.size + 1, j, none⟩ = false := fun j => free_blk HT.out.res
      go_wp2_with fail
      refine bodyPost_ret (v := .agg #[.slice Au fs.length cu, .int .i64 ((xs.length : Int) - k), .int .i64 0, .int .u32 0]) ?_ rfl ⟨.slice Au fs.length cu, ?_, ?_, ?_⟩
      · simp [results, Tryz.results33, go_sem, t0, t1, t2, t3, r0, r1, r2, r3]
      · have e1 : restX most xs = rest := by unfold restX; rw [HC.out]
        have e2 : whyX most xs = 0 := by unfold whyX codeX; rw [HC.out]; rfl
        have e3 : stX most xs = 0 := by unfold stX; rw [HC.out]
        have e4 : ((rest.length : Nat) : Int) = (xs.length : Int) - k := by rw [HRL.out]; omega
        rw [e1, e2, e3, e4]
        rfl
      · have e1 : framesX most xs = fs := by unfold framesX; rw [HC.out]; simp
        rw [e1]
        refine Kd.N_mono (Kd.N_step HT.out.out fun k hk _ => ?_) fun k hk => (show w.heap.size ≤ k by omega)
        iterate 5 rw [set_other _ (by omega)]
      · iterate 5 refine Below.setCell ?_ (by simp <;> omega) _
        exact HT.out.below
    · have hd1 : decide ((12 : Int) ≤ (xs.length : Int) - k) = true := by simp; omega
      have hl12 : ¬ rest.length < 12 := by rw [HRL.out]; exact h12
      have hs1 : (k : Int) ≤ k + 12 := by omega
      have hs2 : (k : Int) + 12 ≤ c := by omega
      have hw2 : IntKind.i64.wrap ((k : Int) + 12) = k + 12 := by rw [IntKind.wrap_i64]; omega
      have hnt : ((k : Int) + 12).toNat = k + 12 := by omega
      have hne : ¬ c = k := by omega
      have hBm := ((HBs.out.at_ HT.out.below).dropA k (by omega)).take' 12 (by omega)
      rw [← HR.out, if_neg hne] at hBm
      have hdec := rdecode_any hBm
      have hI := D_in (show ∀ x ∈ rest, 0 ≤ x ∧ x ≤ 255 by rw [HR.out]; exact fun x h => HX.out x (List.mem_of_mem_drop h))
      obtain ⟨d0, d1, d2, d3, d4, d5⟩ := D_take hl12
      rw [d0, d1, d2, d3, d4, d5] at hdec
      have hck : chkX most rest = chk (D0 rest) (D1 rest) (D2 rest) (D3 rest) (D4 rest) most := rfl
      have hsx : szX rest = (szF (D1 rest) (D4 rest)).toNat := rfl
      have hhd : hdOf rest = ⟨D0 rest, D1 rest, D2 rest, D3 rest, D4 rest⟩ := rfl
      have hst : ∀ e, chkX most rest = e → e ≠ 0 → cut most rest = ([], [], e, D3 rest) := fun e he h0 => by subst he; exact cut_bad hl12 h0
      clear d0 d1 d2 d3 d4 d5 hBm
      generalize D0 rest = x0 at hdec hI hck hsx hhd hst
      generalize D1 rest = x1 at hdec hI hck hsx hhd hst
      generalize D2 rest = x2 at hdec hI hck hsx hhd hst
      generalize D3 rest = x3 at hdec hI hck hsx hhd hst
      generalize D4 rest = x4 at hdec hI hck hsx hhd hst
      have HI := Lib.hid hI
      have HCK := Lib.hid hck
      have HSX := Lib.hid hsx
      have HHD := Lib.hid hhd
      have HST := Lib.hid hst
      have HL12 := Lib.hid hl12
      clear hI hck hsx hhd hst hl12
      go_wp2_with fail
      refine hdec.mono ?_
      rintro e w3 ⟨rfl, hb3⟩
      have HB3 := Lib.hid hb3
      have q0 := cell_alloc (keepA hb3 p0)
      clear hb3 hdec p0 p1
      go_wp2_with fail
      obtain ⟨w4, hw4⟩ : ∃ w4, w4 = w3.alloc (.cells #[.int .u8 x0, .int .u8 x1, .int .u16 x2, .int .u32 x3, .int .u32 x4] 25) := ⟨_, rfl⟩
      have hh4 : w4.heap[w3.heap.size]? = some (.cells #[.int .u8 x0, .int .u8 x1, .int .u16 x2, .int .u32 x3, .int .u32 x4] 25 (0, 0)) := by rw [hw4]; exact alloc_at _ _
      have HB4 := Lib.hid (show Below wr.heap.size wr w4 by rw [hw4]; exact HB3.out.alloc HB3.out.size _)
      rw [← hw4]
      have HBw3 := Lib.hid HB3.out
      clear hw4 HB3
      clear q0
      have hci : Calls Tryz.prog 70 #[hdr x0 x1 x2 x3 x4, .int .i64 most] w4 fun e w' => e = .returned (.int .i64 (chkX most rest)) ∧ Below w4.heap.size w4 w' := by
        have h := rcheck_any w4 x0 x1 x2 x3 x4 most HI.out.t0 HI.out.t1 HI.out.l0 HI.out.l1
        rw [← HCK.out] at h
        exact h
      refine hci.mono ?_
      rintro e w5 ⟨rfl, hb5⟩
      have HB5 := Lib.hid (belowT HB4.out hb5)
      have HH5 := Lib.hid (keepB hb5 hh4)
      have HT5 := Lib.hid (HT.out.step HB5.out)
      clear hb5 hh4 hci HB4
      by_cases hz : chkX most rest = 0
      · rw [hz]
        have HZ := Lib.hid hz
        clear hz
        have h1 : w5.cell? ⟨w3.heap.size, 1, none⟩ = some (.int .u8 x1) := cell_blk HH5.out rfl
        have h4 : w5.cell? ⟨w3.heap.size, 4, none⟩ = some (.int .u32 x4) := cell_blk HH5.out rfl
        obtain ⟨q, hq⟩ : ∃ q : Nat, q = szX rest := ⟨_, rfl⟩
        have HQ := Lib.hid hq
        have hw4 : IntKind.i64.wrap x4 = x4 := by have := HI.out.l0; have := HI.out.l1; rw [IntKind.wrap_i64]; omega
        have hl0 := HI.out.l0
        have hl1 := HI.out.l1
        clear hq
        go_upto_if 41 with fail
        go_cut [8] (fun s wx => Hid (s = .int .i64 q ∧ w5 = wx))
        case first =>
          by_cases hx1 : x1 = 0
          · subst hx1
            go_wp2_with fail
            go_meet
            exact Lib.hid ⟨by rw [HQ.out, HSX.out]; unfold szF; rw [if_pos rfl, Int.toNat_of_nonneg hl0], rfl⟩
          · have hxb : (x1 == 0) = false := by simp [hx1]
            go_wp2_with fail
            go_meet
            exact Lib.hid ⟨by rw [HQ.out, HSX.out]; unfold szF; rw [if_neg hx1]; rfl, rfl⟩
        case rest =>
          obtain ⟨rfl, rfl⟩ := hcut.out
          clear hcut h1 h4 hw4
          have p1 : w5.cell? ⟨w.heap.size, 1, none⟩ = some (.slice A xs.length c) := cell_blk HT5.out.dbx rfl
          have hw5 : IntKind.i64.wrap ((xs.length : Int) - k - 12) = xs.length - k - 12 := by rw [IntKind.wrap_i64]; omega
          by_cases hp : xs.length - k - 12 < q
          · have hd2 : decide ((xs.length : Int) - k - 12 < q) = true := by simp; omega
            have hcut := HT.out.cut
            rw [← HR.out, cut_part (xs := rest) HL12.out HZ.out (by rw [HRL.out, ← HQ.out]; exact hp)] at hcut
            have HC := Lib.hid hcut
            clear hcut
            have t0 : w5.cell? ⟨w.heap.size + 1 + 1, 0, none⟩ = some (.slice Au fs.length cu) := cell_blk HT5.out.tld rfl
            have t1 : w5.cell? ⟨w.heap.size + 1 + 1, 1, none⟩ = some (.int .i64 0) := cell_blk HT5.out.tld rfl
            have t2 : w5.cell? ⟨w.heap.size + 1 + 1, 2, none⟩ = some (.int .i64 0) := cell_blk HT5.out.tld rfl
            have t3 : w5.cell? ⟨w.heap.size + 1 + 1, 3, none⟩ = some (.int .u32 0) := cell_blk HT5.out.tld rfl
            have r0 : w5.cell? ⟨w.heap.size + 1, 0, none⟩ = some (.slice none 0 0) := cell_blk HT5.out.res rfl
            have r1 : w5.cell? ⟨w.heap.size + 1, 1, none⟩ = some (.int .i64 0) := cell_blk HT5.out.res rfl
            have r2 : w5.cell? ⟨w.heap.size + 1, 2, none⟩ = some (.int .i64 0) := cell_blk HT5.out.res rfl
            have r3 : w5.cell? ⟨w.heap.size + 1, 3, none⟩ = some (.int .u32 0) := cell_blk HT5.out.res rfl
            have f1 : ∀ j, w5.frozen? ⟨w.heap.size + 1 + 1, j, none⟩ = false := fun j => free_blk HT5.out.tld
            have f2 : ∀ j, w5.frozen? ⟨w.heap.size + 1, j, none⟩ = false := fun j => free_blk HT5.out.res
            go_wp2_with fail
            refine bodyPost_ret (v := .agg #[.slice Au fs.length cu, .int .i64 ((xs.length : Int) - k), .int .i64 0, .int .u32 0]) ?_ rfl ⟨.slice Au fs.length cu, ?_, ?_, ?_⟩
            · simp [results, Tryz.results33, go_sem, t0, t1, t2, t3, r0, r1, r2, r3]
            · have e1 : restX most xs = rest := by unfold restX; rw [HC.out]
              have e2 : whyX most xs = 0 := by unfold whyX codeX; rw [HC.out]; rfl
              have e3 : stX most xs = 0 := by unfold stX; rw [HC.out]
              have e4 : ((rest.length : Nat) : Int) = (xs.length : Int) - k := by rw [HRL.out]; omega
              rw [e1, e2, e3, e4]
              rfl
            · have e1 : framesX most xs = fs := by unfold framesX; rw [HC.out]; simp
              rw [e1]
              refine Kd.N_mono (Kd.N_step HT5.out.out fun k hk _ => ?_) fun k hk => (show w.heap.size ≤ k by omega)
              iterate 5 rw [set_other _ (by omega)]
            · iterate 5 refine Below.setCell ?_ (by simp <;> omega) _
              exact HT5.out.below
          · have hd2 : decide ((xs.length : Int) - k - 12 < q) = false := by simp; omega
            have hp' : ¬ rest.length - 12 < szX rest := by rw [HRL.out, ← HQ.out]; exact hp
            have hqn : k + 12 + q ≤ xs.length := by omega
            have hlb : ((rest.drop 12).take q).length = q := by rw [List.length_take, List.length_drop, HRL.out]; omega
            obtain ⟨ws, hws⟩ : ∃ ws, ws = (rest.drop 12).take q := ⟨_, rfl⟩
            rw [← hws] at hlb
            have HWS := Lib.hid hws
            have HWL := Lib.hid hlb
            have HWX := Lib.hid (show ∀ x ∈ ws, 0 ≤ x ∧ x ≤ 255 by rw [hws, HR.out]; exact fun x h => HX.out x (List.mem_of_mem_drop (List.mem_of_mem_drop (List.mem_of_mem_take h))))
            have hBm := ((HBs.out.at_ HT5.out.below).dropA (k + 12) (by omega)).take' q (by omega)
            rw [← List.drop_drop, ← HR.out, ← hws] at hBm
            have HBM := Lib.hid hBm
            have HP := Lib.hid hp'
            have h0 : w5.cell? ⟨w3.heap.size, 0, none⟩ = some (.int .u8 x0) := cell_blk HH5.out rfl
            have h1 : w5.cell? ⟨w3.heap.size, 1, none⟩ = some (.int .u8 x1) := cell_blk HH5.out rfl
            have h2 : w5.cell? ⟨w3.heap.size, 2, none⟩ = some (.int .u16 x2) := cell_blk HH5.out rfl
            have h3 : w5.cell? ⟨w3.heap.size, 3, none⟩ = some (.int .u32 x3) := cell_blk HH5.out rfl
            have h4 : w5.cell? ⟨w3.heap.size, 4, none⟩ = some (.int .u32 x4) := cell_blk HH5.out rfl
            have t0 : w5.cell? ⟨w.heap.size + 1 + 1, 0, none⟩ = some (.slice Au fs.length cu) := cell_blk HT5.out.tld rfl
            have hw6 : IntKind.i64.wrap ((k : Int) + 12) = k + 12 := by rw [IntKind.wrap_i64]; omega
            have hw7 : IntKind.i64.wrap ((k : Int) + 12 + q) = k + 12 + q := by rw [IntKind.wrap_i64]; omega
            have g1 : (k : Int) + 12 ≤ k + 12 + q := by omega
            have g2 : (k : Int) + 12 + q ≤ c := by omega
            have g0 : (0 : Int) ≤ (k : Int) + 12 := by omega
            have n1 : ((k : Int) + 12).toNat = k + 12 := by omega
            have n2 : ((k : Int) + 12 + q).toNat = k + 12 + q := by omega
            have HW0 : Own (w5.alloc (.cells #[] 5)).drew w5.heap.size (.slice (some ⟨w5.heap.size, 0, none⟩) 0 0) [] := (own_new w5 w5.heap.size [] (Nat.le_refl _) (by simp)).keep fun _ _ => rfl
            have HWB := Lib.hid HW0
            have HBY : Below w5.heap.size w5 (w5.alloc (.cells #[] 5)).drew := ((Below.refl _ _).alloc (Nat.le_refl _) _).drew
            have HBYH := Lib.hid HBY
            have hfl : fs.length ≤ 1099511627776 := by
              have h := HT5.out.cut
              have h2 := framesX_le most xs
              unfold framesX at h2
              rw [h, List.length_append] at h2
              omega
            have HFL := Lib.hid hfl
            have HKK : _ ∧ _ ∧ _ ∧ _ ∧ _ ∧ _ ∧ _ ∧ True := ⟨h0, h1, h2, h3, h4, t0, p1, trivial⟩
            have hz5 : w.heap.size + 3 ≤ w5.heap.size := by have := (Array.getElem?_eq_some_iff.1 HT5.out.tld).1; omega
            have hw8 : IntKind.i64.wrap (12 + (q : Int)) = 12 + q := by rw [IntKind.wrap_i64]; omega
            have hw9 : IntKind.i64.wrap ((k : Int) + (12 + (q : Int))) = k + (12 + q) := by rw [IntKind.wrap_i64]; omega
            clear hp' hws hlb hBm HW0 HBY hfl hp
            go_wp2_with fail
            refine start_ (n := 19) (S := fun w' => w'.cell? ⟨w3.heap.size, 0, none⟩ = some (.int .u8 x0) ∧ w'.cell? ⟨w3.heap.size, 1, none⟩ = some (.int .u8 x1) ∧ w'.cell? ⟨w3.heap.size, 2, none⟩ = some (.int .u16 x2) ∧ w'.cell? ⟨w3.heap.size, 3, none⟩ = some (.int .u32 x3) ∧ w'.cell? ⟨w3.heap.size, 4, none⟩ = some (.int .u32 x4) ∧ w'.cell? ⟨w.heap.size + 1 + 1, 0, none⟩ = some (.slice Au fs.length cu) ∧ w'.cell? ⟨w.heap.size, 1, none⟩ = some (.slice A xs.length c) ∧ Hid (Below w5.heap.size w5 w')) (ds := [16, 18]) #[false, false, false, false, false, false, false, false, false, false, false, false, false, false, false, false, false, false, false] (by kernel_rfl) rfl rfl (⟨h0, h1, h2, h3, h4, t0, p1, Lib.hid (Below.refl _ _).drew⟩) (fun hHeld => ?_)
            refine pure_ (i := 0) (N := some 53) (v := ?_) (a' := ?_) #[true, false, false, false, false, false, false, false, false, false, false, false, false, false, false, false, false, false, false] rfl rfl (by kernel_rfl) (fun _ _ _ h => h) (Or.inl ⟨by rfl, ?_⟩) ?_ ?_
            rotate_left
            · intro w'
              go_simp
              with_reducible rfl
            rotate_left
            · simp only [Act.put, List.setIfInBounds_toArray, List.set_cons_zero, List.set_cons_succ, i64_w, i32_w]
              rfl
            refine pure_ (i := 4) (N := some 57) (v := ?_) (a' := ?_) #[true, false, false, false, true, false, false, false, false, false, false, false, false, false, false, false, false, false, false] rfl rfl (by kernel_rfl) (fun _ _ _ h => h) (Or.inl ⟨by rfl, ?_⟩) ?_ ?_
            rotate_left
            · intro w'
              go_simp
              with_reducible rfl
            rotate_left
            · simp only [Act.put, List.setIfInBounds_toArray, List.set_cons_zero, List.set_cons_succ, i64_w, i32_w]
              rfl
            refine pure_ (i := 6) (N := some 59) (v := ?_) (a' := ?_) #[true, false, false, false, true, false, true, false, false, false, false, false, false, false, false, false, false, false, false] rfl rfl (by kernel_rfl) (fun _ _ _ h => h) (Or.inl ⟨by rfl, ?_⟩) ?_ ?_
            rotate_left
            · intro w'
              go_simp
              with_reducible rfl
            rotate_left
            · simp only [Act.put, List.setIfInBounds_toArray, List.set_cons_zero, List.set_cons_succ, i64_w, i32_w]
              rfl
            refine pure_ (i := 7) (N := some 60) (v := ?_) (a' := ?_) #[true, false, false, false, true, false, true, true, false, false, false, false, false, false, false, false, false, false, false] rfl rfl (by kernel_rfl) (fun _ _ _ h => h) (Or.inl ⟨by rfl, ?_⟩) ?_ ?_
            rotate_left
            · intro w'
              go_simp
              with_reducible rfl
            rotate_left
            · simp only [Act.put, List.setIfInBounds_toArray, List.set_cons_zero, List.set_cons_succ, i64_w, i32_w]
              rfl
            refine pure_ (i := 8) (N := some 61) (v := ?_) (a' := ?_) #[true, false, false, false, true, false, true, true, true, false, false, false, false, false, false, false, false, false, false] rfl rfl (by kernel_rfl) (fun _ _ _ h => h) (Or.inl ⟨by rfl, ?_⟩) ?_ ?_
            rotate_left
            · intro w'
              go_simp
              with_reducible rfl
            rotate_left
            · simp only [Act.put, List.setIfInBounds_toArray, List.set_cons_zero, List.set_cons_succ, i64_w, i32_w]
              rfl
            refine pure_ (i := 9) (N := some 62) (v := ?_) (a' := ?_) #[true, false, false, false, true, false, true, true, true, true, false, false, false, false, false, false, false, false, false] rfl rfl (by kernel_rfl) (fun _ _ _ h => h) (Or.inl ⟨by rfl, ?_⟩) ?_ ?_
            rotate_left
            · intro w'
              go_simp
              with_reducible rfl
            rotate_left
            · simp only [Act.put, List.setIfInBounds_toArray, List.set_cons_zero, List.set_cons_succ, i64_w, i32_w]
              rfl
            refine pure_ (i := 10) (N := some 63) (v := ?_) (a' := ?_) #[true, false, false, false, true, false, true, true, true, true, true, false, false, false, false, false, false, false, false] rfl rfl (by kernel_rfl) (fun _ _ _ h => h) (Or.inl ⟨by rfl, ?_⟩) ?_ ?_
            rotate_left
            · intro w'
              go_simp
              with_reducible rfl
            rotate_left
            · simp only [Act.put, List.setIfInBounds_toArray, List.set_cons_zero, List.set_cons_succ, i64_w, i32_w]
              rfl
            refine pure_ (i := 11) (N := some 64) (v := ?_) (a' := ?_) #[true, false, false, false, true, false, true, true, true, true, true, true, false, false, false, false, false, false, false] rfl rfl (by kernel_rfl) (fun _ _ _ h => h) (Or.inl ⟨by rfl, ?_⟩) ?_ ?_
            rotate_left
            · intro w'
              go_simp
              with_reducible rfl
            rotate_left
            · simp only [Act.put, List.setIfInBounds_toArray, List.set_cons_zero, List.set_cons_succ, i64_w, i32_w]
              rfl
            refine take_ (i := 1) (N := some 54) (v := ?_) (a' := ?_) #[true, true, false, false, true, false, true, true, true, true, true, true, false, false, false, false, false, false, false] rfl rfl (by kernel_rfl) (fun _ _ _ h => h) (Or.inl ⟨by rfl, ?_⟩) hHeld ?_ ?_
            rotate_left
            · rintro w' ⟨s0, s1, s2, s3, s4, s5, s6, s7⟩
              go_simp
              with_reducible rfl
            rotate_left
            · simp only [Act.put, List.setIfInBounds_toArray, List.set_cons_zero, List.set_cons_succ, i64_w, i32_w]
              rfl
            refine take_ (i := 2) (N := some 55) (v := ?_) (a' := ?_) #[true, true, true, false, true, false, true, true, true, true, true, true, false, false, false, false, false, false, false] rfl rfl (by kernel_rfl) (fun _ _ _ h => h) (Or.inl ⟨by rfl, ?_⟩) hHeld ?_ ?_
            rotate_left
            · rintro w' ⟨s0, s1, s2, s3, s4, s5, s6, s7⟩
              go_simp
              with_reducible rfl
            rotate_left
            · simp only [Act.put, List.setIfInBounds_toArray, List.set_cons_zero, List.set_cons_succ, i64_w, i32_w]
              rfl
            refine take_ (i := 5) (N := some 58) (v := ?_) (a' := ?_) #[true, true, true, false, true, true, true, true, true, true, true, true, false, false, false, false, false, false, false] rfl rfl (by kernel_rfl) (fun _ _ _ h => h) (Or.inl ⟨by rfl, ?_⟩) hHeld ?_ ?_
            rotate_left
            · rintro w' ⟨s0, s1, s2, s3, s4, s5, s6, s7⟩
              go_simp
              with_reducible rfl
            rotate_left
            · simp only [Act.put, List.setIfInBounds_toArray, List.set_cons_zero, List.set_cons_succ, i64_w, i32_w]
              rfl
            refine pure_ (i := 12) (N := some 65) (v := ?_) (a' := ?_) #[true, true, true, false, true, true, true, true, true, true, true, true, true, false, false, false, false, false, false] rfl rfl (by kernel_rfl) (fun _ _ _ h => h) (Or.inl ⟨by rfl, ?_⟩) ?_ ?_
            rotate_left
            · intro w'
              go_simp
              with_reducible rfl
            rotate_left
            · simp only [Act.put, List.setIfInBounds_toArray, List.set_cons_zero, List.set_cons_succ, i64_w, i32_w]
              rfl
            refine one_ (i := 3) (N := some 56) #[true, true, true, true, true, true, true, true, true, true, true, true, true, false, false, false, false, false, false] rfl rfl (by kernel_rfl) (by decide) (fun K hK => ?_)
            refine value_ (w1 := ?_) (v := ?_) (by rfl) rfl ?_ ?_
            rotate_left 2
            · go_simp
              constructor
              · rfl
              · rfl
            refine hK.out _ _ (⟨keepA HBYH.out HKK.1, keepA HBYH.out HKK.2.1, keepA HBYH.out HKK.2.2.1, keepA HBYH.out HKK.2.2.2.1, keepA HBYH.out HKK.2.2.2.2.1, keepA HBYH.out HKK.2.2.2.2.2.1, keepA HBYH.out HKK.2.2.2.2.2.2.1, HBYH⟩) (fun hHeld => ?_)
            clear hK K
            refine norm_ (a' := ?_) ?_ ?_
            rotate_left
            · show Act.put _ (some 56) _ = _
              simp only [Act.put, List.setIfInBounds_toArray, List.set_cons_zero, List.set_cons_succ, i64_w, i32_w]
              rfl
            refine one_ (i := 13) (N := some 66) #[true, true, true, true, true, true, true, true, true, true, true, true, true, true, false, false, false, false, false] rfl rfl (by kernel_rfl) (by decide) (fun K hK => ?_)
            refine step_append_bs rfl (.tmp 56) (.tmp 65) rfl w5.heap.size (.slice (some ⟨w5.heap.size, 0, none⟩) 0 0) [] (by rfl) HWB.out _ q _ ws (by rfl) (by exact HBM.out.next HBYH.out) (by simp; omega) (by simp) ?_
            intro v7 w7 ho7 hg7 _
            have hbW : Below w5.heap.size w5 w7 := HBYH.out.grown hg7 (by simp) (fun k hk => by simp [Value.ownBlock] at hk; omega)
            rw [List.nil_append] at ho7
            obtain ⟨A7, c7, rfl, hq7⟩ := Own.fbs ho7 HWX.out
            have HBW := Lib.hid hbW
            have HO7 := Lib.hid ho7
            have HQ7 := Lib.hid hq7
            clear hbW ho7 hg7 hq7
            refine hK.out _ _ (⟨keepA HBW.out HKK.1, keepA HBW.out HKK.2.1, keepA HBW.out HKK.2.2.1, keepA HBW.out HKK.2.2.2.1, keepA HBW.out HKK.2.2.2.2.1, keepA HBW.out HKK.2.2.2.2.2.1, keepA HBW.out HKK.2.2.2.2.2.2.1, HBW⟩) (fun hHeld => ?_)
            clear hK K
            refine norm_ (a' := ?_) ?_ ?_
            rotate_left
            · show Act.put _ (some 66) _ = _
              simp only [Act.put, List.setIfInBounds_toArray, List.set_cons_zero, List.set_cons_succ, i64_w, i32_w]
              rfl
            refine pure_ (i := 14) (N := some 67) (v := ?_) (a' := ?_) #[true, true, true, true, true, true, true, true, true, true, true, true, true, true, true, false, false, false, false] rfl rfl (by kernel_rfl) (fun _ _ _ h => h) (Or.inl ⟨by rfl, ?_⟩) ?_ ?_
            rotate_left
            · intro w'
              go_simp
              with_reducible rfl
            rotate_left
            · simp only [Act.put, List.setIfInBounds_toArray, List.set_cons_zero, List.set_cons_succ, i64_w, i32_w]
              rfl
            refine one_ (i := 15) (N := some 68) #[true, true, true, true, true, true, true, true, true, true, true, true, true, true, true, true, false, false, false] rfl rfl (by kernel_rfl) (by decide) (fun K hK => ?_)
            refine value_ (w1 := ?_) (v := ?_) (by rfl) rfl ?_ ?_
            rotate_left 2
            · go_simp
              constructor
              · rfl
              · rfl
            have hba : Below w7.heap.size w7 (w7.alloc (.cells #[.int .u8 x0, .int .u8 x1, .int .u16 x2, .int .u32 x3, .int .u32 x4, .slice A7 ws.length c7] 28)) := (Below.refl _ _).alloc (Nat.le_refl _) _
            refine hK.out _ _ (⟨keepA hba hHeld.1, keepA hba hHeld.2.1, keepA hba hHeld.2.2.1, keepA hba hHeld.2.2.2.1, keepA hba hHeld.2.2.2.2.1, keepA hba hHeld.2.2.2.2.2.1, keepA hba hHeld.2.2.2.2.2.2.1, Lib.hid (belowT hHeld.2.2.2.2.2.2.2.out hba)⟩) (fun hHeld => ?_)
            clear hK K
            refine norm_ (a' := ?_) ?_ ?_
            rotate_left
            · show Act.put _ (some 68) _ = _
              simp only [Act.put, List.setIfInBounds_toArray, List.set_cons_zero, List.set_cons_succ, i64_w, i32_w]
              rfl
            refine last_ (i := 16) (N := some 69) #[true, true, true, true, true, true, true, true, true, true, true, true, true, true, true, true, true, false, false] rfl rfl (by kernel_rfl) (by decide) (fun K hK => ?_)
            refine fr_append_step (w0 := w) (W := w7) (by rfl) (.tmp 54) (.tmp 68) rfl (.slice Au fs.length cu) fs ⟨⟨x0, x1, x2, x3, x4⟩, ws⟩ A7 c7 (fun k => w.heap.size + 3 ≤ k) (fun k => some k = (Value.slice A7 ws.length c7).ownBlock) HQ7.out.now.cap HQ7.out.F ?_ (fun k hk => by have := HBW.out.size; omega) rfl rfl (Kd.N_below HT5.out.out HBW.out) (belowT HT5.out.below HBW.out) HFL.out ?_
            · intro k hk
              have h1 := (HO7.out.blk k hk.symm).1
              exact ⟨by omega, fun e => by have := Kd.N_lt HT5.out.out k e.symm; omega⟩
            intro v8 w8 hn8 hb8 hg8
            obtain ⟨A8, c8, e8, _⟩ := Kd.N_reads hn8
            obtain rfl : v8 = .slice A8 (fs.length + 1) c8 := by simpa using e8
            clear e8
            have hk8 := (hg8.block (w.heap.size + 1 + 1) (by have := HBW.out.size; omega) (fun e => by have := HT5.out.out.1 _ e.symm; omega)).trans (keepB HBW.out HT5.out.tld)
            have s9 : w8.cell? ⟨w.heap.size + 1 + 1, 0, none⟩ = some (.slice Au fs.length cu) := cell_blk hk8 rfl
            have s8 : w8.frozen? ⟨w.heap.size + 1 + 1, 0, none⟩ = false := free_blk hk8
            have HN8 := Lib.hid hn8
            have HB8 := Lib.hid hb8
            have HG8 := Lib.hid hg8
            clear hn8 hb8 hg8 hk8
            refine hK.out _ _ ?_
            clear hK K
            refine norm_ (a' := ?_) ?_ ?_
            rotate_left
            · show Act.put _ (some 69) _ = _
              simp only [Act.put, List.setIfInBounds_toArray, List.set_cons_zero, List.set_cons_succ, i64_w, i32_w]
              rfl
            refine pure_ (i := 17) (N := some 70) (v := ?_) (a' := ?_) #[true, true, true, true, true, true, true, true, true, true, true, true, true, true, true, true, true, true, false] rfl rfl (by kernel_rfl) (fun _ _ _ h => h) (Or.inl ⟨by rfl, ?_⟩) ?_ ?_
            rotate_left
            · intro w'
              go_simp
              with_reducible rfl
            rotate_left
            · simp only [Act.put, List.setIfInBounds_toArray, List.set_cons_zero, List.set_cons_succ, i64_w, i32_w]
              rfl
            refine last_ (i := 18) (N := none) #[true, true, true, true, true, true, true, true, true, true, true, true, true, true, true, true, true, true, true] rfl rfl (by kernel_rfl) (by decide) (fun K hK => ?_)
            refine skip_ (w1 := ?_) (by rfl) rfl ?_ ?_
            rotate_left
            · go_simp
              rfl
            refine hK.out _ _ ?_
            clear hK K
            refine done_ (by kernel_rfl) ?_
            clear hHeld HKK h0 h1 h2 h3 h4 t0 p1 s9 s8
            go_wp2_with fail
            go_roundw
            case rel => exact ⟨k + (12 + q), _, _, by go_num, Lib.hid (TS.next (p := ⟨⟨x0, x1, x2, x3, x4⟩, ws⟩) (m := 12 + q) (HT5.out.step HBW.out) HR.out HL12.out HZ.out HP.out (by have := HQ.out; omega) (by rw [HHD.out, HWS.out, HQ.out]) HB8.out HG8.out HN8.out)⟩
            case measure => simp [intOf]; omega
      · have hcd := cut_code most rest
        rw [HST.out _ rfl hz] at hcd
        simp only at hcd
        obtain ⟨ec, hec⟩ : ∃ ec, ec = chkX most rest := ⟨_, rfl⟩
        have hcut := HT.out.cut
        rw [← HR.out, HST.out _ rfl hz, ← hec, List.append_nil] at hcut
        rw [← hec] at hz hcd ⊢
        have he1 : 11 ≤ ec := by omega
        have he2 : ec ≤ 15 := by omega
        have HC := Lib.hid hcut
        have hnz : ((ec : Int) != 0) = true := by simp; omega
        have hwe : IntKind.i64.wrap (1000 + (ec : Int)) = 1000 + ec := by rw [IntKind.wrap_i64]; omega
        have h3 : w5.cell? ⟨w3.heap.size, 3, none⟩ = some (.int .u32 x3) := cell_blk HH5.out rfl
        have t0 : w5.cell? ⟨w.heap.size + 1 + 1, 0, none⟩ = some (.slice Au fs.length cu) := cell_blk HT5.out.tld rfl
        have t1 : w5.cell? ⟨w.heap.size + 1 + 1, 1, none⟩ = some (.int .i64 0) := cell_blk HT5.out.tld rfl
        have t2 : w5.cell? ⟨w.heap.size + 1 + 1, 2, none⟩ = some (.int .i64 0) := cell_blk HT5.out.tld rfl
        have t3 : w5.cell? ⟨w.heap.size + 1 + 1, 3, none⟩ = some (.int .u32 0) := cell_blk HT5.out.tld rfl
        have r0 : w5.cell? ⟨w.heap.size + 1, 0, none⟩ = some (.slice none 0 0) := cell_blk HT5.out.res rfl
        have r1 : w5.cell? ⟨w.heap.size + 1, 1, none⟩ = some (.int .i64 0) := cell_blk HT5.out.res rfl
        have r2 : w5.cell? ⟨w.heap.size + 1, 2, none⟩ = some (.int .i64 0) := cell_blk HT5.out.res rfl
        have r3 : w5.cell? ⟨w.heap.size + 1, 3, none⟩ = some (.int .u32 0) := cell_blk HT5.out.res rfl
        have f1 : ∀ j, w5.frozen? ⟨w.heap.size + 1 + 1, j, none⟩ = false := fun j => free_blk HT5.out.tld
        have f2 : ∀ j, w5.frozen? ⟨w.heap.size + 1, j, none⟩ = false := fun j => free_blk HT5.out.res
        have hz5 : w.heap.size + 3 ≤ w3.heap.size := by have := (Array.getElem?_eq_some_iff.1 HT.out.tld).1; have := HBw3.out.size; omega
        have hd3 : w3.heap.size ≠ w.heap.size + 1 + 1 := by omega
        have hd4 : w3.heap.size ≠ w.heap.size + 1 := by omega
        clear hcut hec hcd hz
        go_wp2_with fail
        refine bodyPost_ret (v := .agg #[.slice Au fs.length cu, .int .i64 0, .int .i64 (1000 + ec), .int .u32 x3]) ?_ rfl ⟨.slice Au fs.length cu, ?_, ?_, ?_⟩
        · simp [results, Tryz.results33, go_sem, t0, t1, t2, t3, r0, r1, r2, r3]
        · have e1 : restX most xs = [] := by unfold restX; rw [HC.out]
          have e2 : whyX most xs = 1000 + ec := by unfold whyX codeX; rw [HC.out]; exact if_neg (show ¬ ec = 0 by omega)
          have e3 : stX most xs = x3 := by unfold stX; rw [HC.out]
          rw [e1, e2, e3]
          rfl
        · have e1 : framesX most xs = fs := by unfold framesX; rw [HC.out]
          rw [e1]
          refine Kd.N_mono (Kd.N_step HT5.out.out fun k hk _ => ?_) fun k hk => (show w.heap.size ≤ k by omega)
          iterate 6 rw [set_other _ (by omega)]
        · iterate 6 refine Below.setCell ?_ (by simp <;> omega) _
          exact HT5.out.below
end Go.Proofs.YtidmgckmphcegaaGreatDoor
