import Derived.Test.YtfddhipdedcacaaDoorMC
import Derived.Test.YtfddhipdedcacaaDoorMB
import Derived.Test.YtfddhipdedcacaaDoorWMore
import Derived.Test.YtfddhipdedcacaaDoorMG
/-
  culvertref05.Say.
-/
namespace Go.Proofs.YtfddhipdedcacaaDoor
open Go.RowKit Go.Proofs.YtfddhipdedcacaaDoorW.PrintWords Go.Proofs.YtfddhipdedcacaaDoorW.PrintLast Go.Proofs.YtfddhipdedcacaaDoorW.PrintMore Go.Proofs.YtfddhipdedcacaaDoor.PFeedPieces
set_option linter.unusedVariables false
set_option linter.unusedSimpArgs false
abbrev rdec (most : Int) (A : Option Addr) (n c : Nat) : Obj := .cells #[.int .i64 most, .slice A n c] 53 (0, 0)
abbrev rtold (u : Value) (r y : Int) (s : Int) : Obj := .cells #[u, .int .i64 r, .int .i64 y, .int .u32 s] 66 (0, 0)
theorem framesX_le (most : Int) (xs : List Int) : (framesX most xs).length ≤ xs.length := by have := cut_len most xs; unfold framesX; omega
/-- The loop's state: k bytes are read, fs are the frames so far, u the list. -/
structure TS (w wr : World) (most : Int) (A : Option Addr) (n c : Nat) (xs : List Int) (k : Nat) (u : Value) (fs : List Fr) : Prop where
  below : Below w.heap.size w wr
  dbx : wr.heap[w.heap.size]? = some (rdec most A n c)
  res : wr.heap[w.heap.size + 1]? = some (rtold (.slice none 0 0) 0 0 0)
  tld : wr.heap[w.heap.size + 1 + 1]? = some (rtold u 0 0 0)
  out : Kd.N kFr 45 wr w.heap.size (fun k => w.heap.size + 3 ≤ k) u fs
  cut : cut most xs = (fs ++ (cut most (xs.drop k)).1, (cut most (xs.drop k)).2)
  le : k ≤ xs.length
theorem TS.step {w wr w1 : World} {most : Int} {A : Option Addr} {n c k : Nat} {xs : List Int} {u : Value} {fs : List Fr} (h : TS w wr most A n c xs k u fs) (hb : Below wr.heap.size wr w1) : TS w w1 most A n c xs k u fs :=
  ⟨belowT h.below hb, keepB hb h.dbx, keepB hb h.res, keepB hb h.tld, Kd.N_below h.out hb, h.cut, h.le⟩
theorem TS.start {w w3 : World} {most : Int} {A : Option Addr} {n c : Nat} {xs : List Int} (hw3 : w3 = ((w.alloc (.cells #[.int .i64 most, .slice A n c] 53)).alloc (.cells #[.slice none 0 0, .int .i64 0, .int .i64 0, .int .u32 0] 66)).alloc (.cells #[.slice none 0 0, .int .i64 0, .int .i64 0, .int .u32 0] 66)) :
    TS w w3 most A n c xs 0 (.slice none 0 0) [] := by
  have s1 : (w.alloc (.cells #[.int .i64 most, .slice A n c] 53)).heap.size = w.heap.size + 1 := by simp
  have s2 : ((w.alloc (.cells #[.int .i64 most, .slice A n c] 53)).alloc (.cells #[.slice none 0 0, .int .i64 0, .int .i64 0, .int .u32 0] 66)).heap.size = w.heap.size + 1 + 1 := by simp
  have h1 := alloc_at w (.cells #[.int .i64 most, .slice A n c] 53)
  have h2 := alloc_at (w.alloc (.cells #[.int .i64 most, .slice A n c] 53)) (.cells #[.slice none 0 0, .int .i64 0, .int .i64 0, .int .u32 0] 66)
  have h3 := alloc_at ((w.alloc (.cells #[.int .i64 most, .slice A n c] 53)).alloc (.cells #[.slice none 0 0, .int .i64 0, .int .i64 0, .int .u32 0] 66)) (.cells #[.slice none 0 0, .int .i64 0, .int .i64 0, .int .u32 0] 66)
  rw [s1] at h2
  rw [s2] at h3
  rw [hw3]
  refine ⟨(((Below.refl _ _).alloc (Nat.le_refl _) _).alloc (by simp) _).alloc (by simp <;> omega) _, ?_, ?_, h3, Kd.N_nil _ _ _ _ _, by simp, by omega⟩
  · rw [blk_old _ (by rw [s2]; omega), blk_old _ (by rw [s1]; omega)]; exact h1
  · rw [blk_old _ (by rw [s2]; omega)]; exact h2
theorem TS.next {w w7 w8 : World} {most : Int} {A : Option Addr} {n c k m : Nat} {xs rest : List Int} {u v8 : Value} {fs : List Fr} {p : Fr} (h : TS w w7 most A n c xs k u fs) (hr : rest = xs.drop k) (h12 : ¬ rest.length < 12) (hz : chkX most rest = 0) (hp : ¬ rest.length - 12 < szX rest) (hm : m = 12 + szX rest)
    (hx : p = ⟨hdOf rest, (rest.drop 12).take (szX rest)⟩) (hb : Below w.heap.size w w8) (hg : w7.grownBy w8 u.ownBlock) (hN : Kd.N kFr 45 w8 w.heap.size (fun k => w.heap.size + 3 ≤ k) v8 (fs ++ [p])) :
    TS w (w8.setCell ⟨w.heap.size + 1 + 1, 0, none⟩ v8) most A n c xs (k + m) v8 (fs ++ [p]) := by
  have hu : ∀ j, u.ownBlock = some j → w.heap.size + 3 ≤ j := fun j hj => h.out.1 j hj
  have hk : ∀ j o, j < w.heap.size + 3 → w7.heap[j]? = some o → w8.heap[j]? = some o := fun j o hj ho => (hg.block j (Array.getElem?_eq_some_iff.1 ho).1 (fun e => by have := hu j e.symm; omega)).trans ho
  have hl : rest.length = xs.length - k := by rw [hr, List.length_drop]
  refine ⟨hb.setCell (by simp <;> omega) _, ?_, ?_, set_blk _ (hk _ _ (by omega) h.tld), ?_, ?_, by have := h.le; omega⟩
  · rw [set_other _ (by omega)]; exact hk _ _ (by omega) h.dbx
  · rw [set_other _ (by omega)]; exact hk _ _ (by omega) h.res
  · exact Kd.N_step hN fun j hj _ => set_other _ (by omega)
  · rw [h.cut, ← hr, cut_go h12 hz hp, ← hm, ← hx, hr, List.drop_drop]
    simp
set_option maxRecDepth 100000 in
set_option maxHeartbeats 4000000 in
theorem told_any {w : World} (most : Int) (A : Option Addr) (n c : Nat) (xs : List Int) (hB : Bs w A n c xs) (m1 : 1 ≤ most) (m2 : most ≤ 65536) (hn : n ≤ 1000000000) :
    Calls Tryd.prog 37 #[.agg #[.int .i64 most, .slice A n c]] w fun e w' => ∃ fv, e = .returned (.agg #[fv, .int .i64 (restX most xs).length, .int .i64 (whyX most xs), .int .u32 (stX most xs)]) ∧ Kd.N kFr 45 w' w.heap.size (fun k => w.heap.size ≤ k) fv (framesX most xs) ∧ Below w.heap.size w w' := by
  have HBs := Lib.hid (show Up w (fun W => Bs W A n c xs) from fun W hb => hB.next hb)
  have HX := Lib.hid hB.byt
  obtain rfl := hB.len
  have hcap := hB.cap
  have hmax := hB.max
  clear hB
  go_enter Tryd.func37, Tryd.ntmps37
  go_wp2_with fail
  obtain ⟨w3, hw3⟩ : ∃ w3, w3 = ((w.alloc (.cells #[.int .i64 most, .slice A xs.length c] 53)).alloc (.cells #[.slice none 0 0, .int .i64 0, .int .i64 0, .int .u32 0] 66)).alloc (.cells #[.slice none 0 0, .int .i64 0, .int .i64 0, .int .u32 0] 66) := ⟨_, rfl⟩
  have HS := Lib.hid (TS.start (xs := xs) hw3)
  rw [← hw3]
  clear hw3
  go_loopw [4] (fun at_ wr => ∃ (k : Nat) (u : Value) (fs : List Fr), at_ = .int .i64 k ∧ Hid (TS w wr most A xs.length c xs k u fs)) (fun at_ _ => xs.length - (intOf at_).toNat)
  case atStart => exact ⟨0, _, _, rfl, HS⟩
  case round =>
    obtain ⟨k, u, fs, rfl, HT⟩ := hrel
    have hk := HT.out.le
    obtain ⟨Au, cu, rfl, _⟩ := Kd.N_reads HT.out.out
    obtain ⟨rest, hrest⟩ : ∃ rest, rest = xs.drop k := ⟨_, rfl⟩
    have hrl : rest.length = xs.length - k := by rw [hrest, List.length_drop]
    have HR := Lib.hid hrest
    have HRL := Lib.hid hrl
    have p0 : wr.cell? ⟨w.heap.size, 0, none⟩ = some (.int .i64 most) := cell_blk HT.out.dbx rfl
    have p1 : wr.cell? ⟨w.heap.size, 1, none⟩ = some (.slice A xs.length c) := cell_blk HT.out.dbx rfl
    have hw1 : IntKind.i64.wrap ((xs.length : Int) - k) = xs.length - k := by rw [IntKind.wrap_i64]; omega
    clear hrest hrl
    by_cases h12 : xs.length - k < 12
    · have hd1 : decide ((12 : Int) ≤ (xs.length : Int) - k) = false := by simp; omega
      have hcut := HT.out.cut
      rw [← HR.out, cut_short (xs := rest) (by rw [HRL.out]; exact h12)] at hcut
      have HC := Lib.hid hcut
      clear hcut
      have t0 : wr.cell? ⟨w.heap.size + 1 + 1, 0, none⟩ = some (.slice Au fs.length cu) := cell_blk HT.out.tld rfl
      have t1 : wr.cell? ⟨w.heap.size + 1 + 1, 1, none⟩ = some (.int .i64 0) := cell_blk HT.out.tld rfl
      have t2 : wr.cell? ⟨w.heap.size + 1 + 1, 2, none⟩ = some (.int .i64 0) := cell_blk HT.out.tld rfl
      have t3 : wr.cell? ⟨w.heap.size + 1 + 1, 3, none⟩ = some (.int .u32 0) := cell_blk HT.out.tld rfl
      have r0 : wr.cell? ⟨w.heap.size + 1, 0, none⟩ = some (.slice none 0 0) := cell_blk HT.out.res rfl
      have r1 : wr.cell? ⟨w.heap.size + 1, 1, none⟩ = some (.int .i64 0) := cell_blk HT.out.res rfl
      have r2 : wr.cell? ⟨w.heap.size + 1, 2, none⟩ = some (.int .i64 0) := cell_blk HT.out.res rfl
      have r3 : wr.cell? ⟨w.heap.size + 1, 3, none⟩ = some (.int .u32 0) := cell_blk HT.out.res rfl
      have f1 : ∀ j, wr.frozen? ⟨w.heap.size + 1 + 1, j, none⟩ = false := fun j => free_blk HT.out.tld
      have f2 : ∀ j, wr.frozen? ⟨w.heap.size + 1, j, none⟩ = false := fun j => free_blk HT.out.res
      go_wp2_with fail
      refine bodyPost_ret (v := .agg #[.slice Au fs.length cu, .int .i64 ((xs.length : Int) - k), .int .i64 0, .int .u32 0]) ?_ rfl ⟨.slice Au fs.length cu, ?_, ?_, ?_⟩
      · simp [results, Tryd.results37, go_sem, t0, t1, t2, t3, r0, r1, r2, r3]
      · have e1 : restX most xs = rest := by unfold restX; rw [HC.out]
        have e2 : whyX most xs = 0 := by unfold whyX codeX; rw [HC.out]; rfl
        have e3 : stX most xs = 0 := by unfold stX; rw [HC.out]
        have e4 : ((rest.length : Nat) : Int) = (xs.length : Int) - k := by rw [HRL.out]; omega
        rw [e1, e2, e3, e4]
        rfl
      · have e1 : framesX most xs = fs := by unfold framesX; rw [HC.out]; simp
        rw [e1]
        refine Kd.N_mono (Kd.N_step HT.out.out fun k hk _ => ?_) fun k hk => (show w.heap.size ≤ k by omega)
        iterate 5 rw [set_other _ (by omega)]
      · iterate 5 refine Below.setCell ?_ (by simp <;> omega) _
        exact HT.out.below
    · have hd1 : decide ((12 : Int) ≤ (xs.length : Int) - k) = true := by simp; omega
      have hl12 : ¬ rest.length < 12 := by rw [HRL.out]; exact h12
      have hs1 : (k : Int) ≤ k + 12 := by omega
      have hs2 : (k : Int) + 12 ≤ c := by omega
      have hw2 : IntKind.i64.wrap ((k : Int) + 12) = k + 12 := by rw [IntKind.wrap_i64]; omega
      have hnt : ((k : Int) + 12).toNat = k + 12 := by omega
      have hne : ¬ c = k := by omega
      have hBm := ((HBs.out.at_ HT.out.below).dropA k (by omega)).take' 12 (by omega)
      rw [← HR.out, if_neg hne] at hBm
      have hdec := rdecode_any hBm
      have hI := D_in (show ∀ x ∈ rest, 0 ≤ x ∧ x ≤ 255 by rw [HR.out]; exact fun x h => HX.out x (List.mem_of_mem_drop h))
      obtain ⟨d0, d1, d2, d3, d4, d5⟩ := D_take hl12
      rw [d0, d1, d2, d3, d4, d5] at hdec
      have hck : chkX most rest = chk (D0 rest) (D1 rest) (D2 rest) (D3 rest) (D4 rest) most := rfl
      have hsx : szX rest = (szF (D1 rest) (D4 rest)).toNat := rfl
      have hhd : hdOf rest = ⟨D0 rest, D1 rest, D2 rest, D3 rest, D4 rest⟩ := rfl
      have hst : ∀ e, chkX most rest = e → e ≠ 0 → cut most rest = ([], [], e, D3 rest) := fun e he h0 => by subst he; exact cut_bad hl12 h0
      clear d0 d1 d2 d3 d4 d5 hBm
      generalize D0 rest = x0 at hdec hI hck hsx hhd hst
      generalize D1 rest = x1 at hdec hI hck hsx hhd hst
      generalize D2 rest = x2 at hdec hI hck hsx hhd hst
      generalize D3 rest = x3 at hdec hI hck hsx hhd hst
      generalize D4 rest = x4 at hdec hI hck hsx hhd hst
      have HI := Lib.hid hI
      have HCK := Lib.hid hck
      have HSX := Lib.hid hsx
      have HHD := Lib.hid hhd
      have HST := Lib.hid hst
      have HL12 := Lib.hid hl12
      clear hI hck hsx hhd hst hl12
      go_wp2_with fail
      refine hdec.mono ?_
      rintro e w3 ⟨rfl, hb3⟩
      have HB3 := Lib.hid hb3
      have q0 := cell_alloc (keepA hb3 p0)
      clear hb3 hdec p0 p1
      go_wp2_with fail
      obtain ⟨w4, hw4⟩ : ∃ w4, w4 = w3.alloc (.cells #[.int .u8 x0, .int .u8 x1, .int .u16 x2, .int .u32 x3, .int .u32 x4] 26) := ⟨_, rfl⟩
      have hh4 : w4.heap[w3.heap.size]? = some (.cells #[.int .u8 x0, .int .u8 x1, .int .u16 x2, .int .u32 x3, .int .u32 x4] 26 (0, 0)) := by rw [hw4]; exact alloc_at _ _
      have HB4 := Lib.hid (show Below wr.heap.size wr w4 by rw [hw4]; exact HB3.out.alloc HB3.out.size _)
      rw [← hw4]
      have HBw3 := Lib.hid HB3.out
      clear hw4 HB3
      clear q0
      have hci : Calls Tryd.prog 20 #[hdr x0 x1 x2 x3 x4, .int .i64 most] w4 fun e w' => e = .returned (.int .i64 (chkX most rest)) ∧ Below w4.heap.size w4 w' := by
        have h := rcheck_any w4 x0 x1 x2 x3 x4 most HI.out.t0 HI.out.t1 HI.out.l0 HI.out.l1
        rw [← HCK.out] at h
        exact h
      refine hci.mono ?_
      rintro e w5 ⟨rfl, hb5⟩
      have HB5 := Lib.hid (belowT HB4.out hb5)
      have HH5 := Lib.hid (keepB hb5 hh4)
      have HT5 := Lib.hid (HT.out.step HB5.out)
      clear hb5 hh4 hci HB4
      by_cases hz : chkX most rest = 0
      · rw [hz]
        have HZ := Lib.hid hz
        clear hz
        have h1 : w5.cell? ⟨w3.heap.size, 1, none⟩ = some (.int .u8 x1) := cell_blk HH5.out rfl
        have h4 : w5.cell? ⟨w3.heap.size, 4, none⟩ = some (.int .u32 x4) := cell_blk HH5.out rfl
        obtain ⟨q, hq⟩ : ∃ q : Nat, q = szX rest := ⟨_, rfl⟩
        have HQ := Lib.hid hq
        have hw4 : IntKind.i64.wrap x4 = x4 := by have := HI.out.l0; have := HI.out.l1; rw [IntKind.wrap_i64]; omega
        have hl0 := HI.out.l0
        have hl1 := HI.out.l1
        clear hq
        go_upto_if 41 with fail
        go_cut [8] (fun s wx => Hid (s = .int .i64 q ∧ w5 = wx))
        case first =>
          by_cases hx1 : x1 = 0
          · subst hx1
            go_wp2_with fail
            go_meet
            exact Lib.hid ⟨by rw [HQ.out, HSX.out]; unfold szF; rw [if_pos rfl, Int.toNat_of_nonneg hl0], rfl⟩
          · have hxb : (x1 == 0) = false := by simp [hx1]
            go_wp2_with fail
            go_meet
            exact Lib.hid ⟨by rw [HQ.out, HSX.out]; unfold szF; rw [if_neg hx1]; rfl, rfl⟩
        case rest =>
          obtain ⟨rfl, rfl⟩ := hcut.out
          clear hcut h1 h4 hw4
          have p1 : w5.cell? ⟨w.heap.size, 1, none⟩ = some (.slice A xs.length c) := cell_blk HT5.out.dbx rfl
          have hw5 : IntKind.i64.wrap ((xs.length : Int) - k - 12) = xs.length - k - 12 := by rw [IntKind.wrap_i64]; omega
          by_cases hp : xs.length - k - 12 < q
          · have hd2 : decide ((xs.length : Int) - k - 12 < q) = true := by simp; omega
            have hcut := HT.out.cut
            rw [← HR.out, cut_part (xs := rest) HL12.out HZ.out (by rw [HRL.out, ← HQ.out]; exact hp)] at hcut
            have HC := Lib.hid hcut
            clear hcut
            have t0 : w5.cell? ⟨w.heap.size + 1 + 1, 0, none⟩ = some (.slice Au fs.length cu) := cell_blk HT5.out.tld rfl
            have t1 : w5.cell? ⟨w.heap.size + 1 + 1, 1, none⟩ = some (.int .i64 0) := cell_blk HT5.out.tld rfl
            have t2 : w5.cell? ⟨w.heap.size + 1 + 1, 2, none⟩ = some (.int .i64 0) := cell_blk HT5.out.tld rfl
            have t3 : w5.cell? ⟨w.heap.size + 1 + 1, 3, none⟩ = some (.int .u32 0) := cell_blk HT5.out.tld rfl
            have r0 : w5.cell? ⟨w.heap.size + 1, 0, none⟩ = some (.slice none 0 0) := cell_blk HT5.out.res rfl
            have r1 : w5.cell? ⟨w.heap.size + 1, 1, none⟩ = some (.int .i64 0) := cell_blk HT5.out.res rfl
            have r2 : w5.cell? ⟨w.heap.size + 1, 2, none⟩ = some (.int .i64 0) := cell_blk HT5.out.res rfl
            have r3 : w5.cell? ⟨w.heap.size + 1, 3, none⟩ = some (.int .u32 0) := cell_blk HT5.out.res rfl
            have f1 : ∀ j, w5.frozen? ⟨w.heap.size + 1 + 1, j, none⟩ = false := fun j => free_blk HT5.out.tld
            have f2 : ∀ j, w5.frozen? ⟨w.heap.size + 1, j, none⟩ = false := fun j => free_blk HT5.out.res
            go_wp2_with fail
            refine bodyPost_ret (v := .agg #[.slice Au fs.length cu, .int .i64 ((xs.length : Int) - k), .int .i64 0, .int .u32 0]) ?_ rfl ⟨.slice Au fs.length cu, ?_, ?_, ?_⟩
            · simp [results, Tryd.results37, go_sem, t0, t1, t2, t3, r0, r1, r2, r3]
            · have e1 : restX most xs = rest := by unfold restX; rw [HC.out]
              have e2 : whyX most xs = 0 := by unfold whyX codeX; rw [HC.out]; rfl
              have e3 : stX most xs = 0 := by unfold stX; rw [HC.out]
              have e4 : ((rest.length : Nat) : Int) = (xs.length : Int) - k := by rw [HRL.out]; omega
              rw [e1, e2, e3, e4]
              rfl
            · have e1 : framesX most xs = fs := by unfold framesX; rw [HC.out]; simp
              rw [e1]
              refine Kd.N_mono (Kd.N_step HT5.out.out fun k hk _ => ?_) fun k hk => (show w.heap.size ≤ k by omega)
              iterate 5 rw [set_other _ (by omega)]
            · iterate 5 refine Below.setCell ?_ (by simp <;> omega) _
              exact HT5.out.below
          · have hd2 : decide ((xs.length : Int) - k - 12 < q) = false := by simp; omega
            have hp' : ¬ rest.length - 12 < szX rest := by rw [HRL.out, ← HQ.out]; exact hp
            have hqn : k + 12 + q ≤ xs.length := by omega
            have hlb : ((rest.drop 12).take q).length = q := by rw [List.length_take, List.length_drop, HRL.out]; omega
            obtain ⟨ws, hws⟩ : ∃ ws, ws = (rest.drop 12).take q := ⟨_, rfl⟩
            rw [← hws] at hlb
            have HWS := Lib.hid hws
            have HWL := Lib.hid hlb
            have HWX := Lib.hid (show ∀ x ∈ ws, 0 ≤ x ∧ x ≤ 255 by rw [hws, HR.out]; exact fun x h => HX.out x (List.mem_of_mem_drop (List.mem_of_mem_drop (List.mem_of_mem_take h))))
            have hBm := ((HBs.out.at_ HT5.out.below).dropA (k + 12) (by omega)).take' q (by omega)
            rw [← List.drop_drop, ← HR.out, ← hws] at hBm
            have HBM := Lib.hid hBm
            have HP := Lib.hid hp'
            have h0 : w5.cell? ⟨w3.heap.size, 0, none⟩ = some (.int .u8 x0) := cell_blk HH5.out rfl
            have h1 : w5.cell? ⟨w3.heap.size, 1, none⟩ = some (.int .u8 x1) := cell_blk HH5.out rfl
            have h2 : w5.cell? ⟨w3.heap.size, 2, none⟩ = some (.int .u16 x2) := cell_blk HH5.out rfl
            have h3 : w5.cell? ⟨w3.heap.size, 3, none⟩ = some (.int .u32 x3) := cell_blk HH5.out rfl
            have h4 : w5.cell? ⟨w3.heap.size, 4, none⟩ = some (.int .u32 x4) := cell_blk HH5.out rfl
            have t0 : w5.cell? ⟨w.heap.size + 1 + 1, 0, none⟩ = some (.slice Au fs.length cu) := cell_blk HT5.out.tld rfl
            have hw6 : IntKind.i64.wrap ((k : Int) + 12) = k + 12 := by rw [IntKind.wrap_i64]; omega
            have hw7 : IntKind.i64.wrap ((k : Int) + 12 + q) = k + 12 + q := by rw [IntKind.wrap_i64]; omega
            have g1 : (k : Int) + 12 ≤ k + 12 + q := by omega
            have g2 : (k : Int) + 12 + q ≤ c := by omega
            have g0 : (0 : Int) ≤ (k : Int) + 12 := by omega
            have n1 : ((k : Int) + 12).toNat = k + 12 := by omega
            have n2 : ((k : Int) + 12 + q).toNat = k + 12 + q := by omega
            have HW0 : Own (w5.alloc (.cells #[] 5)).drew w5.heap.size (.slice (some ⟨w5.heap.size, 0, none⟩) 0 0) [] := (own_new w5 w5.heap.size [] (Nat.le_refl _) (by simp)).keep fun _ _ => rfl
            have HWB := Lib.hid HW0
            have HBY : Below w5.heap.size w5 (w5.alloc (.cells #[] 5)).drew := ((Below.refl _ _).alloc (Nat.le_refl _) _).drew
            have HBYH := Lib.hid HBY
            have hfl : fs.length ≤ 1099511627776 := by
              have h := HT5.out.cut
              have h2 := framesX_le most xs
              unfold framesX at h2
              rw [h, List.length_append] at h2
              omega
            have HFL := Lib.hid hfl
            have HKK : _ ∧ _ ∧ _ ∧ _ ∧ _ ∧ _ ∧ _ ∧ True := ⟨h0, h1, h2, h3, h4, t0, p1, trivial⟩
            have hz5 : w.heap.size + 3 ≤ w5.heap.size := by have := (Array.getElem?_eq_some_iff.1 HT5.out.tld).1; omega
            have hw8 : IntKind.i64.wrap (12 + (q : Int)) = 12 + q := by rw [IntKind.wrap_i64]; omega
            have hw9 : IntKind.i64.wrap ((k : Int) + (12 + (q : Int))) = k + (12 + q) := by rw [IntKind.wrap_i64]; omega
            clear hp' hws hlb hBm HW0 HBY hfl hp
            go_wp2_with fail
            refine start_ (n := 19) (S := fun w' => w'.cell? ⟨w3.heap.size, 0, none⟩ = some (.int .u8 x0) ∧ w'.cell? ⟨w3.heap.size, 1, none⟩ = some (.int .u8 x1) ∧ w'.cell? ⟨w3.heap.size, 2, none⟩ = some (.int .u16 x2) ∧ w'.cell? ⟨w3.heap.size, 3, none⟩ = some (.int .u32 x3) ∧ w'.cell? ⟨w3.heap.size, 4, none⟩ = some (.int .u32 x4) ∧ w'.cell? ⟨w.heap.size + 1 + 1, 0, none⟩ = some (.slice Au fs.length cu) ∧ w'.cell? ⟨w.heap.size, 1, none⟩ = some (.slice A xs.length c) ∧ Hid (Below w5.heap.size w5 w')) (ds := [16, 18]) #[false, false, false, false, false, false, false, false, false, false, false, false, false, false, false, false, false, false, false] (by kernel_rfl) rfl rfl (⟨h0, h1, h2, h3, h4, t0, p1, Lib.hid (Below.refl _ _).drew⟩) (fun hHeld => ?_)
            refine pure_ (i := 0) (N := some 53) (v := ?_) (a' := ?_) #[true, false, false, false, false, false, false, false, false, false, false, false, false, false, false, false, false, false, false] rfl rfl (by kernel_rfl) (fun _ _ _ h => h) (Or.inl ⟨by rfl, ?_⟩) ?_ ?_
            rotate_left
            · intro w'
              go_simp
              with_reducible rfl
            rotate_left
            · simp only [Act.put, List.setIfInBounds_toArray, List.set_cons_zero, List.set_cons_succ, i64_w, i32_w]
              rfl
            refine pure_ (i := 4) (N := some 57) (v := ?_) (a' := ?_) #[true, false, false, false, true, false, false, false, false, false, false, false, false, false, false, false, false, false, false] rfl rfl (by kernel_rfl) (fun _ _ _ h => h) (Or.inl ⟨by rfl, ?_⟩) ?_ ?_
            rotate_left
            · intro w'
              go_simp
              with_reducible rfl
            rotate_left
            · simp only [Act.put, List.setIfInBounds_toArray, List.set_cons_zero, List.set_cons_succ, i64_w, i32_w]
              rfl
            refine pure_ (i := 6) (N := some 59) (v := ?_) (a' := ?_) #[true, false, false, false, true, false, true, false, false, false, false, false, false, false, false, false, false, false, false] rfl rfl (by kernel_rfl) (fun _ _ _ h => h) (Or.inl ⟨by rfl, ?_⟩) ?_ ?_
            rotate_left
            · intro w'
              go_simp
              with_reducible rfl
            rotate_left
            · simp only [Act.put, List.setIfInBounds_toArray, List.set_cons_zero, List.set_cons_succ, i64_w, i32_w]
              rfl
            refine pure_ (i := 7) (N := some 60) (v := ?_) (a' := ?_) #[true, false, false, false, true, false, true, true, false, false, false, false, false, false, false, false, false, false, false] rfl rfl (by kernel_rfl) (fun _ _ _ h => h) (Or.inl ⟨by rfl, ?_⟩) ?_ ?_
            rotate_left
            · intro w'
              go_simp
              with_reducible rfl
            rotate_left
            · simp only [Act.put, List.setIfInBounds_toArray, List.set_cons_zero, List.set_cons_succ, i64_w, i32_w]
              rfl
            refine pure_ (i := 8) (N := some 61) (v := ?_) (a' := ?_) #[true, false, false, false, true, false, true, true, true, false, false, false, false, false, false, false, false, false, false] rfl rfl (by kernel_rfl) (fun _ _ _ h => h) (Or.inl ⟨by rfl, ?_⟩) ?_ ?_
            rotate_left
            · intro w'
              go_simp
              with_reducible rfl
            rotate_left
            · simp only [Act.put, List.setIfInBounds_toArray, List.set_cons_zero, List.set_cons_succ, i64_w, i32_w]
              rfl
            refine pure_ (i := 9) (N := some 62) (v := ?_) (a' := ?_) #[true, false, false, false, true, false, true, true, true, true, false, false, false, false, false, false, false, false, false] rfl rfl (by kernel_rfl) (fun _ _ _ h => h) (Or.inl ⟨by rfl, ?_⟩) ?_ ?_
            rotate_left
            · intro w'
              go_simp
              with_reducible rfl
            rotate_left
            · simp only [Act.put, List.setIfInBounds_toArray, List.set_cons_zero, List.set_cons_succ, i64_w, i32_w]
              rfl
            refine pure_ (i := 10) (N := some 63) (v := ?_) (a' := ?_) #[true, false, false, false, true, false, true, true, true, true, true, false, false, false, false, false, false, false, false] rfl rfl (by kernel_rfl) (fun _ _ _ h => h) (Or.inl ⟨by rfl, ?_⟩) ?_ ?_
            rotate_left
            · intro w'
              go_simp
              with_reducible rfl
            rotate_left
            · simp only [Act.put, List.setIfInBounds_toArray, List.set_cons_zero, List.set_cons_succ, i64_w, i32_w]
              rfl
            refine pure_ (i := 11) (N := some 64) (v := ?_) (a' := ?_) #[true, false, false, false, true, false, true, true, true, true, true, true, false, false, false, false, false, false, false] rfl rfl (by kernel_rfl) (fun _ _ _ h => h) (Or.inl ⟨by rfl, ?_⟩) ?_ ?_
            rotate_left
            · intro w'
              go_simp
              with_reducible rfl
            rotate_left
            · simp only [Act.put, List.setIfInBounds_toArray, List.set_cons_zero, List.set_cons_succ, i64_w, i32_w]
              rfl
            refine take_ (i := 1) (N := some 54) (v := ?_) (a' := ?_) #[true, true, false, false, true, false, true, true, true, true, true, true, false, false, false, false, false, false, false] rfl rfl (by kernel_rfl) (fun _ _ _ h => h) (Or.inl ⟨by rfl, ?_⟩) hHeld ?_ ?_
            rotate_left
            · rintro w' ⟨s0, s1, s2, s3, s4, s5, s6, s7⟩
              go_simp
              with_reducible rfl
            rotate_left
            · simp only [Act.put, List.setIfInBounds_toArray, List.set_cons_zero, List.set_cons_succ, i64_w, i32_w]
              rfl
            refine take_ (i := 2) (N := some 55) (v := ?_) (a' := ?_) #[true, true, true, false, true, false, true, true, true, true, true, true, false, false, false, false, false, false, false] rfl rfl (by kernel_rfl) (fun _ _ _ h => h) (Or.inl ⟨by rfl, ?_⟩) hHeld ?_ ?_
            rotate_left
            · rintro w' ⟨s0, s1, s2, s3, s4, s5, s6, s7⟩
              go_simp
              with_reducible rfl
            rotate_left
            · simp only [Act.put, List.setIfInBounds_toArray, List.set_cons_zero, List.set_cons_succ, i64_w, i32_w]
              rfl
            refine take_ (i := 5) (N := some 58) (v := ?_) (a' := ?_) #[true, true, true, false, true, true, true, true, true, true, true, true, false, false, false, false, false, false, false] rfl rfl (by kernel_rfl) (fun _ _ _ h => h) (Or.inl ⟨by rfl, ?_⟩) hHeld ?_ ?_
            rotate_left
            · rintro w' ⟨s0, s1, s2, s3, s4, s5, s6, s7⟩
              go_simp
              with_reducible rfl
            rotate_left
            · simp only [Act.put, List.setIfInBounds_toArray, List.set_cons_zero, List.set_cons_succ, i64_w, i32_w]
              rfl
            refine pure_ (i := 12) (N := some 65) (v := ?_) (a' := ?_) #[true, true, true, false, true, true, true, true, true, true, true, true, true, false, false, false, false, false, false] rfl rfl (by kernel_rfl) (fun _ _ _ h => h) (Or.inl ⟨by rfl, ?_⟩) ?_ ?_
            rotate_left
            · intro w'
              go_simp
              with_reducible rfl
            rotate_left
            · simp only [Act.put, List.setIfInBounds_toArray, List.set_cons_zero, List.set_cons_succ, i64_w, i32_w]
              rfl
            refine one_ (i := 3) (N := some 56) #[true, true, true, true, true, true, true, true, true, true, true, true, true, false, false, false, false, false, false] rfl rfl (by kernel_rfl) (by decide) (fun K hK => ?_)
            refine value_ (w1 := ?_) (v := ?_) (by rfl) rfl ?_ ?_
            rotate_left 2
            · go_simp
              constructor
              · rfl
              · rfl
            refine hK.out _ _ (⟨keepA HBYH.out HKK.1, keepA HBYH.out HKK.2.1, keepA HBYH.out HKK.2.2.1, keepA HBYH.out HKK.2.2.2.1, keepA HBYH.out HKK.2.2.2.2.1, keepA HBYH.out HKK.2.2.2.2.2.1, keepA HBYH.out HKK.2.2.2.2.2.2.1, HBYH⟩) (fun hHeld => ?_)
            clear hK K
            refine norm_ (a' := ?_) ?_ ?_
            rotate_left
            · show Act.put _ (some 56) _ = _
              simp only [Act.put, List.setIfInBounds_toArray, List.set_cons_zero, List.set_cons_succ, i64_w, i32_w]
              rfl
            refine one_ (i := 13) (N := some 66) #[true, true, true, true, true, true, true, true, true, true, true, true, true, true, false, false, false, false, false] rfl rfl (by kernel_rfl) (by decide) (fun K hK => ?_)
            refine step_append_bs rfl (.tmp 56) (.tmp 65) rfl w5.heap.size (.slice (some ⟨w5.heap.size, 0, none⟩) 0 0) [] (by rfl) HWB.out _ q _ ws (by rfl) (by exact HBM.out.next HBYH.out) (by simp; omega) (by simp) ?_
            intro v7 w7 ho7 hg7 _
            have hbW : Below w5.heap.size w5 w7 := HBYH.out.grown hg7 (by simp) (fun k hk => by simp [Value.ownBlock] at hk; omega)
            rw [List.nil_append] at ho7
            obtain ⟨A7, c7, rfl, hq7⟩ := Own.fbs ho7 HWX.out
            have HBW := Lib.hid hbW
            have HO7 := Lib.hid ho7
            have HQ7 := Lib.hid hq7
            clear hbW ho7 hg7 hq7
            refine hK.out _ _ (⟨keepA HBW.out HKK.1, keepA HBW.out HKK.2.1, keepA HBW.out HKK.2.2.1, keepA HBW.out HKK.2.2.2.1, keepA HBW.out HKK.2.2.2.2.1, keepA HBW.out HKK.2.2.2.2.2.1, keepA HBW.out HKK.2.2.2.2.2.2.1, HBW⟩) (fun hHeld => ?_)
            clear hK K
            refine norm_ (a' := ?_) ?_ ?_
            rotate_left
            · show Act.put _ (some 66) _ = _
              simp only [Act.put, List.setIfInBounds_toArray, List.set_cons_zero, List.set_cons_succ, i64_w, i32_w]
              rfl
            refine pure_ (i := 14) (N := some 67) (v := ?_) (a' := ?_) #[true, true, true, true, true, true, true, true, true, true, true, true, true, true, true, false, false, false, false] rfl rfl (by kernel_rfl) (fun _ _ _ h => h) (Or.inl ⟨by rfl, ?_⟩) ?_ ?_
            rotate_left
            · intro w'
              go_simp
              with_reducible rfl
            rotate_left
            · simp only [Act.put, List.setIfInBounds_toArray, List.set_cons_zero, List.set_cons_succ, i64_w, i32_w]
              rfl
            refine one_ (i := 15) (N := some 68) #[true, true, true, true, true, true, true, true, true, true, true, true, true, true, true, true, false, false, false] rfl rfl (by kernel_rfl) (by decide) (fun K hK => ?_)
            refine value_ (w1 := ?_) (v := ?_) (by rfl) rfl ?_ ?_
            rotate_left 2
            · go_simp
              constructor
              · rfl
              · rfl
            have hba : Below w7.heap.size w7 (w7.alloc (.cells #[.int .u8 x0, .int .u8 x1, .int .u16 x2, .int .u32 x3, .int .u32 x4, .slice A7 ws.length c7] 45)) := (Below.refl _ _).alloc (Nat.le_refl _) _
            refine hK.out _ _ (⟨keepA hba hHeld.1, keepA hba hHeld.2.1, keepA hba hHeld.2.2.1, keepA hba hHeld.2.2.2.1, keepA hba hHeld.2.2.2.2.1, keepA hba hHeld.2.2.2.2.2.1, keepA hba hHeld.2.2.2.2.2.2.1, Lib.hid (belowT hHeld.2.2.2.2.2.2.2.out hba)⟩) (fun hHeld => ?_)
            clear hK K
            refine norm_ (a' := ?_) ?_ ?_
            rotate_left
            · show Act.put _ (some 68) _ = _
              simp only [Act.put, List.setIfInBounds_toArray, List.set_cons_zero, List.set_cons_succ, i64_w, i32_w]
              rfl
            refine last_ (i := 16) (N := some 69) #[true, true, true, true, true, true, true, true, true, true, true, true, true, true, true, true, true, false, false] rfl rfl (by kernel_rfl) (by decide) (fun K hK => ?_)
            refine fr_append_step (w0 := w) (W := w7) (by rfl) (.tmp 54) (.tmp 68) rfl (.slice Au fs.length cu) fs ⟨⟨x0, x1, x2, x3, x4⟩, ws⟩ A7 c7 (fun k => w.heap.size + 3 ≤ k) (fun k => some k = (Value.slice A7 ws.length c7).ownBlock) HQ7.out.now.cap HQ7.out.F ?_ (fun k hk => by have := HBW.out.size; omega) rfl rfl (Kd.N_below HT5.out.out HBW.out) (belowT HT5.out.below HBW.out) HFL.out ?_
            · intro k hk
              have h1 := (HO7.out.blk k hk.symm).1
              exact ⟨by omega, fun e => by have := Kd.N_lt HT5.out.out k e.symm; omega⟩
            intro v8 w8 hn8 hb8 hg8
            obtain ⟨A8, c8, e8, _⟩ := Kd.N_reads hn8
            obtain rfl : v8 = .slice A8 (fs.length + 1) c8 := by simpa using e8
            clear e8
            have hk8 := (hg8.block (w.heap.size + 1 + 1) (by have := HBW.out.size; omega) (fun e => by have := HT5.out.out.1 _ e.symm; omega)).trans (keepB HBW.out HT5.out.tld)
            have s9 : w8.cell? ⟨w.heap.size + 1 + 1, 0, none⟩ = some (.slice Au fs.length cu) := cell_blk hk8 rfl
            have s8 : w8.frozen? ⟨w.heap.size + 1 + 1, 0, none⟩ = false := free_blk hk8
            have HN8 := Lib.hid hn8
            have HB8 := Lib.hid hb8
            have HG8 := Lib.hid hg8
            clear hn8 hb8 hg8 hk8
            refine hK.out _ _ ?_
            clear hK K
            refine norm_ (a' := ?_) ?_ ?_
            rotate_left
            · show Act.put _ (some 69) _ = _
              simp only [Act.put, List.setIfInBounds_toArray, List.set_cons_zero, List.set_cons_succ, i64_w, i32_w]
              rfl
            refine pure_ (i := 17) (N := some 70) (v := ?_) (a' := ?_) #[true, true, true, true, true, true, true, true, true, true, true, true, true, true, true, true, true, true, false] rfl rfl (by kernel_rfl) (fun _ _ _ h => h) (Or.inl ⟨by rfl, ?_⟩) ?_ ?_
            rotate_left
            · intro w'
              go_simp
              with_reducible rfl
            rotate_left
            · simp only [Act.put, List.setIfInBounds_toArray, List.set_cons_zero, List.set_cons_succ, i64_w, i32_w]
              rfl
            refine last_ (i := 18) (N := none) #[true, true, true, true, true, true, true, true, true, true, true, true, true, true, true, true, true, true, true] rfl rfl (by kernel_rfl) (by decide) (fun K hK => ?_)
            refine skip_ (w1 := ?_) (by rfl) rfl ?_ ?_
            rotate_left
            · go_simp
              rfl
            refine hK.out _ _ ?_
            clear hK K
            refine done_ (by kernel_rfl) ?_
            clear hHeld HKK h0 h1 h2 h3 h4 t0 p1 s9 s8
            go_wp2_with fail
            go_roundw
            case rel => exact ⟨k + (12 + q), _, _, by go_num, Lib.hid (TS.next (p := ⟨⟨x0, x1, x2, x3, x4⟩, ws⟩) (m := 12 + q) (HT5.out.step HBW.out) HR.out HL12.out HZ.out HP.out (by have := HQ.out; omega) (by rw [HHD.out, HWS.out, HQ.out]) HB8.out HG8.out HN8.out)⟩
            case measure => simp [intOf]; omega
      · have hcd := cut_code most rest
        rw [HST.out _ rfl hz] at hcd
        simp only at hcd
        obtain ⟨ec, hec⟩ : ∃ ec, ec = chkX most rest := ⟨_, rfl⟩
        have hcut := HT.out.cut
        rw [← HR.out, HST.out _ rfl hz, ← hec, List.append_nil] at hcut
        rw [← hec] at hz hcd ⊢
        have he1 : 11 ≤ ec := by omega
        have he2 : ec ≤ 15 := by omega
        have HC := Lib.hid hcut
        have hnz : ((ec : Int) != 0) = true := by simp; omega
        have hwe : IntKind.i64.wrap (1000 + (ec : Int)) = 1000 + ec := by rw [IntKind.wrap_i64]; omega
        have h3 : w5.cell? ⟨w3.heap.size, 3, none⟩ = some (.int .u32 x3) := cell_blk HH5.out rfl
        have t0 : w5.cell? ⟨w.heap.size + 1 + 1, 0, none⟩ = some (.slice Au fs.length cu) := cell_blk HT5.out.tld rfl
        have t1 : w5.cell? ⟨w.heap.size + 1 + 1, 1, none⟩ = some (.int .i64 0) := cell_blk HT5.out.tld rfl
        have t2 : w5.cell? ⟨w.heap.size + 1 + 1, 2, none⟩ = some (.int .i64 0) := cell_blk HT5.out.tld rfl
        have t3 : w5.cell? ⟨w.heap.size + 1 + 1, 3, none⟩ = some (.int .u32 0) := cell_blk HT5.out.tld rfl
        have r0 : w5.cell? ⟨w.heap.size + 1, 0, none⟩ = some (.slice none 0 0) := cell_blk HT5.out.res rfl
        have r1 : w5.cell? ⟨w.heap.size + 1, 1, none⟩ = some (.int .i64 0) := cell_blk HT5.out.res rfl
        have r2 : w5.cell? ⟨w.heap.size + 1, 2, none⟩ = some (.int .i64 0) := cell_blk HT5.out.res rfl
        have r3 : w5.cell? ⟨w.heap.size + 1, 3, none⟩ = some (.int .u32 0) := cell_blk HT5.out.res rfl
        have f1 : ∀ j, w5.frozen? ⟨w.heap.size + 1 + 1, j, none⟩ = false := fun j => free_blk HT5.out.tld
        have f2 : ∀ j, w5.frozen? ⟨w.heap.size + 1, j, none⟩ = false := fun j => free_blk HT5.out.res
        have hz5 : w.heap.size + 3 ≤ w3.heap.size := by have := (Array.getElem?_eq_some_iff.1 HT.out.tld).1; have := HBw3.out.size; omega
        have hd3 : w3.heap.size ≠ w.heap.size + 1 + 1 := by omega
        have hd4 : w3.heap.size ≠ w.heap.size + 1 := by omega
        clear hcut hec hcd hz
        go_wp2_with fail
        refine bodyPost_ret (v := .agg #[.slice Au fs.length cu, .int .i64 0, .int .i64 (1000 + ec), .int .u32 x3]) ?_ rfl ⟨.slice Au fs.length cu, ?_, ?_, ?_⟩
        · simp [results, Tryd.results37, go_sem, t0, t1, t2, t3, r0, r1, r2, r3]
        · have e1 : restX most xs = [] := by unfold restX; rw [HC.out]
          have e2 : whyX most xs = 1000 + ec := by unfold whyX codeX; rw [HC.out]; exact if_neg (show ¬ ec = 0 by omega)
          have e3 : stX most xs = x3 := by unfold stX; rw [HC.out]
          rw [e1, e2, e3]
          rfl
        · have e1 : framesX most xs = fs := by unfold framesX; rw [HC.out]
          rw [e1]
          refine Kd.N_mono (Kd.N_step HT5.out.out fun k hk _ => ?_) fun k hk => (show w.heap.size ≤ k by omega)
          iterate 6 rw [set_other _ (by omega)]
        · iterate 6 refine Below.setCell ?_ (by simp <;> omega) _
          exact HT5.out.below
end Go.Proofs.YtfddhipdedcacaaDoor
/-
  culvertref05: New, Feed, Held, Wants.
-/
namespace Go.Proofs.YtfddhipdedcacaaDoor
open Go.RowKit Go.Proofs.YtfddhipdedcacaaDoorW.PrintWords Go.Proofs.YtfddhipdedcacaaDoorW.PrintLast Go.Proofs.YtfddhipdedcacaaDoorW.PrintMore Go.Proofs.YtfddhipdedcacaaDoor.PFeedPieces
set_option linter.unusedVariables false
set_option linter.unusedSimpArgs false
theorem told_live {w : World} (most : Int) (A : Option Addr) (n c : Nat) (xs : List Int) (hB : Bs w A n c xs) (m1 : 1 ≤ most) (m2 : most ≤ 65536) (hn : n ≤ 1000000000) (hc : codeX most xs = 0) :
    Calls Tryd.prog 37 #[.agg #[.int .i64 most, .slice A n c]] w fun e w' => ∃ A9 c9, e = .returned (.agg #[.slice A9 (framesX most xs).length c9, .int .i64 (restX most xs).length, .int .i64 0, .int .u32 0]) ∧ (framesX most xs).length ≤ c9 ∧ Kd.F kFr w' (fun k => w.heap.size ≤ k) A9 (framesX most xs).length (framesX most xs) ∧ Below w.heap.size w w' :=
  (told_any most A n c xs hB m1 m2 hn).mono fun e w' ⟨fv, he, hN, hb⟩ => by
    obtain ⟨A9, c9, rfl, hl, _⟩ := Kd.N_reads hN
    have h1 : whyX most xs = 0 := by unfold whyX; rw [if_pos hc]
    have h2 : stX most xs = 0 := ((cut_left most xs).1 hc).2
    rw [h1, h2] at he
    exact ⟨A9, c9, he, hl, Kd.N_F hN, hb⟩
theorem told_dead {w : World} (most : Int) (A : Option Addr) (n c : Nat) (xs : List Int) (hB : Bs w A n c xs) (m1 : 1 ≤ most) (m2 : most ≤ 65536) (hn : n ≤ 1000000000) (hc : codeX most xs ≠ 0) :
    Calls Tryd.prog 37 #[.agg #[.int .i64 most, .slice A n c]] w fun e w' => ∃ A9 c9, e = .returned (.agg #[.slice A9 (framesX most xs).length c9, .int .i64 0, .int .i64 (whyX most xs), .int .u32 (stX most xs)]) ∧ (framesX most xs).length ≤ c9 ∧ Kd.F kFr w' (fun k => w.heap.size ≤ k) A9 (framesX most xs).length (framesX most xs) ∧ Below w.heap.size w w' :=
  (told_any most A n c xs hB m1 m2 hn).mono fun e w' ⟨fv, he, hN, hb⟩ => by
    obtain ⟨A9, c9, rfl, hl, _⟩ := Kd.N_reads hN
    rw [restX_dead hc] at he
    exact ⟨A9, c9, he, hl, Kd.N_F hN, hb⟩
set_option maxRecDepth 100000 in
theorem rheld_any {w : World} (most : Int) (A : Option Addr) (n c : Nat) (xs : List Int) (hB : Bs w A n c xs) (m1 : 1 ≤ most) (m2 : most ≤ 65536) (hn : n ≤ 1000000000) :
    Calls Tryd.prog 35 #[.agg #[.int .i64 most, .slice A n c]] w fun e w' => e = .returned (.int .i64 (restX most xs).length) ∧ Below w.heap.size w w' := by
  obtain ⟨w0, hw0⟩ : ∃ w0, w0 = w.alloc (.cells #[.int .i64 most, .slice A n c] 53) := ⟨_, rfl⟩
  have hb0 : Below w.heap.size w w0 := by rw [hw0]; exact (Below.refl _ _).alloc (Nat.le_refl _) _
  have HB0 := Lib.hid hb0
  have HBs := Lib.hid (hB.next hb0)
  by_cases hc : codeX most xs = 0
  · have ht := told_live most A n c xs HBs.out m1 m2 hn hc
    clear hB hb0 hc
    go_enter Tryd.func35, Tryd.ntmps35
    go_wp2_with fail
    rw [← hw0]
    refine ht.mono ?_
    rintro e w1 ⟨A9, c9, rfl, _, _, hb1⟩
    have HB1 := Lib.hid (belowT HB0.out (hb1.alloc hb1.size (.cells #[.slice A9 (framesX most xs).length c9, .int .i64 (restX most xs).length, .int .i64 0, .int .u32 0] 66)))
    clear hb1 ht hw0
    go_wp2_with fail
    go_ret
    exact ⟨rfl, HB1.out⟩
  · have ht := told_dead most A n c xs HBs.out m1 m2 hn hc
    have hr := restX_dead hc
    have hy : ((whyX most xs : Int) != 0) = true := by unfold whyX; rw [if_neg hc]; simp; omega
    have HR := Lib.hid hr
    clear hB hb0 hc hr
    go_enter Tryd.func35, Tryd.ntmps35
    go_wp2_with fail
    rw [← hw0]
    refine ht.mono ?_
    rintro e w1 ⟨A9, c9, rfl, _, _, hb1⟩
    have HB1 := Lib.hid (belowT HB0.out (hb1.alloc hb1.size (.cells #[.slice A9 (framesX most xs).length c9, .int .i64 0, .int .i64 (whyX most xs), .int .u32 (stX most xs)] 66)))
    clear hb1 ht hw0
    go_wp2_with fail
    go_ret
    exact ⟨by rw [HR.out]; rfl, HB1.out⟩
theorem rnew_yes (most : Int) (w : World) (m1 : 1 ≤ most) (m2 : most ≤ 65536) :
    Calls Tryd.prog 31 #[.int .i64 most] w fun e w' => e = .returned (.tuple #[.agg #[.int .i64 most, .slice none 0 0], .int .i64 0]) ∧ Below w.heap.size w w' := by
  have h1 : decide (most < 1) = false := by simp; omega
  have h2 : decide (65536 < most) = false := by simp; omega
  go_enter Tryd.func31, Tryd.ntmps31
  go_wp2_with fail
  refine bodyPost_ret (v := .tuple #[.agg #[.int .i64 most, .slice none 0 0], .int .i64 0]) ?_ rfl ⟨rfl, ?_⟩
  · simp [results, Tryd.results31, go_sem]
  · exact (Below.refl _ _).alloc (Nat.le_refl _) _
theorem rnew_no (most : Int) (w : World) (hm : most < 1 ∨ 65536 < most) :
    Calls Tryd.prog 31 #[.int .i64 most] w fun e w' => e = .returned (.tuple #[.agg #[.int .i64 0, .slice none 0 0], .int .i64 2]) ∧ Below w.heap.size w w' := by
  rcases hm with hm | hm
  · have h1 : decide (most < 1) = true := by simp [hm]
    go_enter Tryd.func31, Tryd.ntmps31
    go_wp2_with fail
    refine bodyPost_ret (v := .tuple #[.agg #[.int .i64 0, .slice none 0 0], .int .i64 2]) ?_ rfl ⟨rfl, ?_⟩
    · simp [results, Tryd.results31, go_sem]
    · exact (Below.refl _ _).alloc (Nat.le_refl _) _
  · have h1 : decide (most < 1) = false := by simp; omega
    have h2 : decide (65536 < most) = true := by simp [hm]
    go_enter Tryd.func31, Tryd.ntmps31
    go_wp2_with fail
    refine bodyPost_ret (v := .tuple #[.agg #[.int .i64 0, .slice none 0 0], .int .i64 2]) ?_ rfl ⟨rfl, ?_⟩
    · simp [results, Tryd.results31, go_sem]
    · exact (Below.refl _ _).alloc (Nat.le_refl _) _
theorem cut_suf (most : Int) (xs : List Int) (hc : codeX most xs = 0) : ∃ tl, xs = tl ++ restX most xs := by
  unfold codeX at hc
  unfold restX
  induction hn : xs.length using Nat.strongRecOn generalizing xs with
  | _ n ih =>
    subst hn
    by_cases h12 : xs.length < 12
    · rw [cut_short h12]; exact ⟨[], rfl⟩
    · by_cases hz : chkX most xs = 0
      · by_cases hp : xs.length - 12 < szX xs
        · rw [cut_part h12 hz hp]; exact ⟨[], rfl⟩
        · rw [cut_go h12 hz hp] at hc ⊢
          obtain ⟨tl, h⟩ := ih (xs.drop (12 + szX xs)).length (by simp; omega) (xs.drop (12 + szX xs)) hc rfl
          refine ⟨xs.take (12 + szX xs) ++ tl, ?_⟩
          show xs = xs.take (12 + szX xs) ++ tl ++ (cut most (xs.drop (12 + szX xs))).2.1
          rw [List.append_assoc, ← h, List.take_append_drop]
      · rw [cut_bad h12 hz] at hc
        exact absurd hc hz
/-- What is missing, as the reference counts it. -/
theorem want_r {most : Int} {xs : List Int} (hc : codeX most xs = 0) (h12 : ¬ (restX most xs).length < 12) (m1 : 1 ≤ most) : wantX most xs = D4 (restX most xs) - ((restX most xs).length - 12) := by
  have hR : Rest most (restX most xs) := ((cut_left most xs).1 hc).1
  obtain ⟨h1, h2⟩ := hR.resolve_left h12
  have h0 : D1 (restX most xs) = 0 := by
    by_cases h0 : D1 (restX most xs) = 0
    · exact h0
    · have := (rest_sz m1 h1).2 h0
      omega
  unfold wantX
  rw [if_neg (by simp [hc]), if_neg h12]
  unfold szF
  rw [if_pos h0]
  omega
theorem want_pos' {most : Int} {xs : List Int} (hc : codeX most xs = 0) (m1 : 1 ≤ most) : 1 ≤ wantX most xs ∧ wantX most xs ≤ 12 + most := by
  have hR : Rest most (restX most xs) := ((cut_left most xs).1 hc).1
  unfold wantX
  rw [if_neg (by simp [hc])]
  by_cases h12 : (restX most xs).length < 12
  · rw [if_pos h12]; omega
  · rw [if_neg h12]
    obtain ⟨h1, h2⟩ := hR.resolve_left h12
    have := (rest_sz m1 h1).1
    unfold szX at h2 this
    omega
set_option maxRecDepth 100000 in
theorem rwants_any {w : World} (most : Int) (A : Option Addr) (n c : Nat) (xs : List Int) (hB : Bs w A n c xs) (m1 : 1 ≤ most) (m2 : most ≤ 65536) (hn : n ≤ 1000000000) :
    Calls Tryd.prog 36 #[.agg #[.int .i64 most, .slice A n c]] w fun e w' => e = .returned (.int .i64 (wantX most xs)) ∧ Below w.heap.size w w' := by
  obtain ⟨w0, hw0⟩ : ∃ w0, w0 = w.alloc (.cells #[.int .i64 most, .slice A n c] 53) := ⟨_, rfl⟩
  have hb0 : Below w.heap.size w w0 := by rw [hw0]; exact (Below.refl _ _).alloc (Nat.le_refl _) _
  have hd0 : w0.heap[w.heap.size]? = some (rdec most A n c) := by rw [hw0]; exact alloc_at _ _
  have HB0 := Lib.hid hb0
  have HD0 := Lib.hid hd0
  have HBs := Lib.hid (show Up w0 (fun W => Bs W A n c xs) from fun W hb => (hB.next hb0).next hb)
  have hxb := hB.byt
  obtain rfl := hB.len
  have hcap := hB.cap
  have hmax := hB.max
  by_cases hc : codeX most xs = 0
  · have ht := told_live most A xs.length c xs HBs.out.now m1 m2 hn hc
    have hm0 : (most == 0) = false := by simp; omega
    have hrl := restX_len most xs
    obtain ⟨tl, hxs⟩ := cut_suf most xs hc
    have htl : tl.length + (restX most xs).length = xs.length := by have h := congrArg List.length hxs; rw [List.length_append] at h; omega
    have hdrop : xs.drop (xs.length - (restX most xs).length) = restX most xs := by
      rw [show xs.length - (restX most xs).length = tl.length by omega]
      conv => lhs; rw [hxs]
      rw [List.drop_left]
    obtain ⟨rl, hrl'⟩ : ∃ rl, rl = (restX most xs).length := ⟨_, rfl⟩
    rw [← hrl'] at ht hrl hdrop
    by_cases h12 : rl < 12
    · have hd : decide ((rl : Int) < 12) = true := by simp; omega
      have hW : wantX most xs = 12 - rl := by unfold wantX; rw [if_neg (by simp [hc]), if_pos (by omega), ← hrl']
      have HW := Lib.hid hW
      have hw1 : IntKind.i64.wrap (12 - (rl : Int)) = 12 - rl := by rw [IntKind.wrap_i64]; omega
      clear hB hb0 hd0 hc hW hxb hxs htl hdrop hrl'
      go_enter Tryd.func36, Tryd.ntmps36
      go_wp2_with fail
      rw [← hw0]
      refine ht.mono ?_
      rintro e w1 ⟨A9, c9, rfl, _, _, hb1⟩
      have HB1 := Lib.hid (belowT HB0.out (hb1.alloc hb1.size (.cells #[.slice A9 (framesX most xs).length c9, .int .i64 rl, .int .i64 0, .int .u32 0] 66)))
      have q0 := cell_alloc (keepA hb1 (cell_blk HD0.out rfl : w0.cell? ⟨w.heap.size, 0, none⟩ = some (.int .i64 most)))
      clear hb1 ht hw0
      go_wp2_with fail
      go_ret
      exact ⟨by rw [HW.out]; rfl, HB1.out⟩
    · have hd : decide ((rl : Int) < 12) = false := by simp; omega
      have h12' : ¬ (restX most xs).length < 12 := by rw [← hrl']; exact h12
      have hW := want_r hc h12' m1
      rw [← hrl'] at hW
      have hwp := (want_pos' hc m1).1
      rw [hW] at hwp
      have hI := D_in (show ∀ x ∈ restX most xs, 0 ≤ x ∧ x ≤ 255 from fun x h => hxb x (cut_sub most xs x h))
      obtain ⟨off, hoff⟩ : ∃ off : Nat, off = xs.length - rl := ⟨_, rfl⟩
      have hlo : (xs.length : Int) - rl = off := by omega
      rw [← hoff] at hdrop
      have HDR := Lib.hid hdrop
      have hoc : off < c := by omega
      have hon : off ≤ xs.length := by omega
      have hw1 : IntKind.i64.wrap ((xs.length : Int) - rl) = off := by rw [IntKind.wrap_i64] <;> omega
      have hox : (off : Int) ≤ xs.length := by omega
      have hne : ¬ c = off := by omega
      have hxo : xs.length - off = rl := by omega
      have hl0 := hI.l0
      have hl1 := hI.l1
      obtain ⟨x4, hx4⟩ : ∃ x4, x4 = D4 (restX most xs) := ⟨_, rfl⟩
      rw [← hx4] at hW hwp hl0 hl1
      have HX4 := Lib.hid hx4
      have HW := Lib.hid hW
      have hw2 : IntKind.i64.wrap x4 = x4 := by rw [IntKind.wrap_i64]; omega
      have hw3 : IntKind.i64.wrap ((rl : Int) - 12) = rl - 12 := by rw [IntKind.wrap_i64]; omega
      have hw4 : IntKind.i64.wrap (x4 - ((rl : Int) - 12)) = x4 - (rl - 12) := by rw [IntKind.wrap_i64]; omega
      clear hB hb0 hd0 hc hW hxb hxs htl hdrop hrl' hI hx4 h12' hoff
      go_enter Tryd.func36, Tryd.ntmps36
      go_wp2_with fail
      rw [← hw0]
      refine ht.mono ?_
      rintro e w1 ⟨A9, c9, rfl, _, _, hb1⟩
      have HB1 := Lib.hid (hb1.alloc hb1.size (.cells #[.slice A9 (framesX most xs).length c9, .int .i64 rl, .int .i64 0, .int .u32 0] 66))
      have q0 := cell_alloc (keepA hb1 (cell_blk HD0.out rfl : w0.cell? ⟨w.heap.size, 0, none⟩ = some (.int .i64 most)))
      have q1 := cell_alloc (keepA hb1 (cell_blk HD0.out rfl : w0.cell? ⟨w.heap.size, 1, none⟩ = some (.slice A xs.length c)))
      clear hb1 ht hw0
      go_wp2_with fail
      have hBd := (HBs.out.at_ HB1.out).dropA off hon
      rw [HDR.out, if_neg hne] at hBd
      have hdec := rdecode_any hBd
      rw [← HX4.out, hxo] at hdec
      generalize D0 (restX most xs) = x0 at hdec
      generalize D1 (restX most xs) = x1 at hdec
      generalize D2 (restX most xs) = x2 at hdec
      generalize D3 (restX most xs) = x3 at hdec
      generalize DE (restX most xs) = x5 at hdec
      refine hdec.mono ?_
      rintro e w2 ⟨rfl, hb2⟩
      have HB2 := Lib.hid (belowT HB1.out hb2)
      have q2 := cell_alloc (keepA hb2 (show (w1.alloc (.cells #[.slice A9 (framesX most xs).length c9, .int .i64 rl, .int .i64 0, .int .u32 0] 66)).cell? ⟨w1.heap.size, 1, none⟩ = some (.int .i64 rl) from cell_blk (alloc_at _ _) rfl))
      clear hb2 hdec hBd q0 q1
      go_wp2_with fail
      go_ret
      exact ⟨by rw [HW.out]; rfl, belowT HB0.out (HB2.out.alloc HB2.out.size _)⟩
  · have ht := told_dead most A xs.length c xs HBs.out.now m1 m2 hn hc
    have hy : ((whyX most xs : Int) != 0) = true := by unfold whyX; rw [if_neg hc]; simp; omega
    have hw : wantX most xs = 0 := by unfold wantX; rw [if_pos hc]
    have HW := Lib.hid hw
    clear hB hb0 hd0 hc hw hxb
    go_enter Tryd.func36, Tryd.ntmps36
    go_wp2_with fail
    rw [← hw0]
    refine ht.mono ?_
    rintro e w1 ⟨A9, c9, rfl, _, _, hb1⟩
    have HB1 := Lib.hid (belowT HB0.out (hb1.alloc hb1.size (.cells #[.slice A9 (framesX most xs).length c9, .int .i64 0, .int .i64 (whyX most xs), .int .u32 (stX most xs)] 66)))
    clear hb1 ht hw0
    go_wp2_with fail
    go_ret
    exact ⟨by rw [HW.out]; rfl, HB1.out⟩
end Go.Proofs.YtfddhipdedcacaaDoor
/-
  culvertref05.Feed; law 5's fails.
-/
namespace Go.Proofs.YtfddhipdedcacaaDoor
open Go.RowKit Go.Proofs.YtfddhipdedcacaaDoorW.PrintWords Go.Proofs.YtfddhipdedcacaaDoorW.PrintLast Go.Proofs.YtfddhipdedcacaaDoorW.PrintMore Go.Proofs.YtfddhipdedcacaaDoor.PFeedPieces
set_option linter.unusedVariables false
set_option linter.unusedSimpArgs false
theorem own_ge {v u : Value} {H H' : Nat} (hat : v.ownBlock = u.ownBlock ∨ ∃ b, v.ownBlock = some b ∧ H' ≤ b) (hu : u.ownBlock = some H) (hH : H ≤ H') : ∀ k, v.ownBlock = some k → H ≤ k := fun k hk => by
  rcases hat with h | ⟨b, h, hb⟩
  · rw [hk, hu] at h; injection h with h; omega
  · rw [hk] at h; injection h with h; omega
theorem told_F {w : World} (most : Int) (A : Option Addr) (n c : Nat) (xs : List Int) (hB : Bs w A n c xs) (m1 : 1 ≤ most) (m2 : most ≤ 65536) (hn : n ≤ 1000000000) :
    Calls Tryd.prog 37 #[.agg #[.int .i64 most, .slice A n c]] w fun e w' => ∃ A9 c9, e = .returned (.agg #[.slice A9 (framesX most xs).length c9, .int .i64 (restX most xs).length, .int .i64 (whyX most xs), .int .u32 (stX most xs)]) ∧ (framesX most xs).length ≤ c9 ∧ Kd.F kFr w' (fun k => w.heap.size ≤ k) A9 (framesX most xs).length (framesX most xs) ∧ Below w.heap.size w w' :=
  (told_any most A n c xs hB m1 m2 hn).mono fun e w' ⟨fv, he, hN, hb⟩ => by
    obtain ⟨A9, c9, rfl, hl, _⟩ := Kd.N_reads hN
    exact ⟨A9, c9, he, hl, Kd.N_F hN, hb⟩
/-- The world behind the entry of the reference's Feed. -/
theorem rf_start {w w0 : World} {most : Int} {A : Option Addr} {n c : Nat} (hw0 : w0 = (w.alloc (.cells #[.int .i64 most, .slice A n c] 53)).alloc (.cells #[.int .i64 0, .slice none 0 0] 53)) :
    Below w.heap.size w w0 ∧ w0.heap[w.heap.size]? = some (rdec most A n c) ∧ w0.heap[w.heap.size + 1]? = some (rdec 0 none 0 0) := by
  have s1 : (w.alloc (.cells #[.int .i64 most, .slice A n c] 53)).heap.size = w.heap.size + 1 := by simp
  have h1 := alloc_at w (.cells #[.int .i64 most, .slice A n c] 53)
  have h2 := alloc_at (w.alloc (.cells #[.int .i64 most, .slice A n c] 53)) (.cells #[.int .i64 0, .slice none 0 0] 53)
  rw [s1] at h2
  rw [hw0]
  exact ⟨((Below.refl _ _).alloc (Nat.le_refl _) _).alloc (by simp) _, by rw [blk_old _ (by rw [s1]; omega)]; exact h1, h2⟩
set_option maxRecDepth 100000 in
theorem rfeed_dead {w : World} (most : Int) (A : Option Addr) (n c : Nat) (xs : List Int) (hB : Bs w A n c xs) (m1 : 1 ≤ most) (m2 : most ≤ 65536) (hn : n ≤ 1000000000) (hc : codeX most xs ≠ 0) (x : Value) :
    Calls Tryd.prog 32 #[.agg #[.int .i64 most, .slice A n c], x] w fun e w' => e = .returned (.tuple #[.agg #[.int .i64 most, .slice A n c], .slice none 0 0, .int .i64 (whyX most xs)]) ∧ Below w.heap.size w w' := by
  obtain ⟨w0, hw0⟩ : ∃ w0, w0 = (w.alloc (.cells #[.int .i64 most, .slice A n c] 53)).alloc (.cells #[.int .i64 0, .slice none 0 0] 53) := ⟨_, rfl⟩
  obtain ⟨hb0, hd0, hr0⟩ := rf_start hw0
  have HB0 := Lib.hid hb0
  have HD0 := Lib.hid hd0
  have HR0 := Lib.hid hr0
  have ht := told_dead most A n c xs (hB.next hb0) m1 m2 hn hc
  have hy : ((whyX most xs : Int) != 0) = true := by unfold whyX; rw [if_neg hc]; simp; omega
  have hm0 : (most == 0) = false := by simp; omega
  clear hB hb0 hd0 hr0 hc
  go_enter Tryd.func32, Tryd.ntmps32
  go_wp2_with fail
  rw [← hw0]
  refine ht.mono ?_
  rintro e w1 ⟨A9, c9, rfl, _, _, hb1⟩
  obtain ⟨w2, hw2⟩ : ∃ w2, w2 = w1.alloc (.cells #[.slice A9 (framesX most xs).length c9, .int .i64 0, .int .i64 (whyX most xs), .int .u32 (stX most xs)] 66) := ⟨_, rfl⟩
  have hb2 : Below w0.heap.size w0 w2 := by rw [hw2]; exact hb1.alloc hb1.size _
  have hd2 := keepB hb2 HD0.out
  have hr2 := keepB hb2 HR0.out
  have ht2 : w2.heap[w1.heap.size]? = some (rtold (.slice A9 (framesX most xs).length c9) 0 (whyX most xs) (stX most xs)) := by rw [hw2]; exact alloc_at _ _
  have HB2 := Lib.hid hb2
  have HZ := Lib.hid (show w.heap.size + 2 ≤ w1.heap.size by have := hb1.size; have := (Array.getElem?_eq_some_iff.1 HR0.out).1; omega)
  have q0 : w2.cell? ⟨w.heap.size, 0, none⟩ = some (.int .i64 most) := cell_blk hd2 rfl
  have q1 : w2.cell? ⟨w.heap.size, 1, none⟩ = some (.slice A n c) := cell_blk hd2 rfl
  have r0 : w2.cell? ⟨w.heap.size + 1, 0, none⟩ = some (.int .i64 0) := cell_blk hr2 rfl
  have r1 : w2.cell? ⟨w.heap.size + 1, 1, none⟩ = some (.slice none 0 0) := cell_blk hr2 rfl
  have r2 : ∀ j, w2.frozen? ⟨w.heap.size + 1, j, none⟩ = false := fun j => free_blk hr2
  have t2 : w2.cell? ⟨w1.heap.size, 2, none⟩ = some (.int .i64 (whyX most xs)) := cell_blk ht2 rfl
  clear hb1 ht hw0 hb2 hd2 hr2 ht2
  go_wp2_with fail
  rw [← hw2]
  clear hw2
  go_region
  all_goals
    go_wp2_with fail
    refine bodyPost_ret (v := .tuple #[.agg #[.int .i64 most, .slice A n c], .slice none 0 0, .int .i64 (whyX most xs)]) ?_ rfl ⟨rfl, ?_⟩
    · simp [results, Tryd.results32, go_sem, r0, r1]
    · exact (((belowT HB0.out HB2.out).setCell (by simp) _).setCell (by simp) _).drew
theorem own_bs {W : World} {base n c : Nat} {A : Option Addr} {zs : List Int} (h : Own W base (.slice A n c) zs) (hx : ∀ x ∈ zs, 0 ≤ x ∧ x ≤ 255) : Bs W A n c zs := by
  obtain ⟨A', c', e, hq⟩ := Own.bs h hx
  injection e with e1 e2 e3
  rw [e1, e2, e3]
  exact hq
theorem own_fbs {W : World} {base n c : Nat} {A : Option Addr} {zs : List Int} (h : Own W base (.slice A n c) zs) (hx : ∀ x ∈ zs, 0 ≤ x ∧ x ≤ 255) : FBs W (fun k => base ≤ k) A n c zs := by
  obtain ⟨A', c', e, hq⟩ := Own.fbs h hx
  injection e with e1 e2 e3
  rw [e1, e2, e3]
  exact hq.mono fun k hk => (h.blk k hk.symm).1
theorem rf_frames {W : World} {ok : Nat → Prop} {most : Int} {xs ys : List Int} {A : Option Addr} {lx l9 c : Nat} (h : Kd.F kFr W ok A lx (framesX most (xs ++ ys))) (hl : lx = (framesX most (xs ++ ys)).length) (h9 : l9 = (framesX most xs).length) (hf : framesX most (xs ++ ys) = framesX most xs ++ newX most xs ys) (hc : lx ≤ c) :
    Kd.F kFr W ok (if c = l9 then A else A.map (·.add (l9 * 6))) (newX most xs ys).length (newX most xs ys) := by
  subst hl
  have h2 := Kd.F_cut (m := l9) (c := c) h (by rw [hf, h9, List.length_append]; omega) hc
  rw [hf, h9, List.drop_left] at h2
  rw [h9]
  exact h2
set_option maxRecDepth 100000 in
set_option maxHeartbeats 2000000 in
theorem rfeed_live {w : World} (most : Int) (A : Option Addr) (n c : Nat) (xs : List Int) (hB : Bs w A n c xs) (B : Option Addr) (m d : Nat) (ys : List Int) (hY : Bs w B m d ys) (m1 : 1 ≤ most) (m2 : most ≤ 65536) (hn : n + m ≤ 1000000000) (hc : codeX most xs = 0) :
    Calls Tryd.prog 32 #[.agg #[.int .i64 most, .slice A n c], .slice B m d] w fun e w' => ∃ A' c' F f, e = .returned (.tuple #[.agg #[.int .i64 most, .slice A' (n + m) c'], .slice F (newX most xs ys).length f, .int .i64 (whyX most (xs ++ ys))]) ∧ FBs w' (fun k => w.heap.size ≤ k) A' (n + m) c' (xs ++ ys) ∧ Kd.F kFr w' (fun k => w.heap.size ≤ k) F (newX most xs ys).length (newX most xs ys) ∧ Below w.heap.size w w' := by
  obtain ⟨w0, hw0⟩ : ∃ w0, w0 = (w.alloc (.cells #[.int .i64 most, .slice A n c] 53)).alloc (.cells #[.int .i64 0, .slice none 0 0] 53) := ⟨_, rfl⟩
  obtain ⟨hb0, hd0, hr0⟩ := rf_start hw0
  have HB0 := Lib.hid hb0
  have HD0 := Lib.hid hd0
  have HR0 := Lib.hid hr0
  have HX := Lib.hid hB.byt
  have HY := Lib.hid hY.byt
  have HBA := Lib.hid (show Up w0 (fun W => Bs W A n c xs) from fun W hb => (hB.next hb0).next hb)
  have HBB := Lib.hid (show Up w0 (fun W => Bs W B m d ys) from fun W hb => (hY.next hb0).next hb)
  obtain rfl := hB.len
  obtain rfl := hY.len
  have ht := told_live most A xs.length c xs (hB.next hb0) m1 m2 (by omega) hc
  have hm0 : (most == 0) = false := by simp; omega
  have HC := Lib.hid hc
  clear hB hY hb0 hd0 hr0 hc
  go_enter Tryd.func32, Tryd.ntmps32
  go_wp2_with fail
  rw [← hw0]
  refine ht.mono ?_
  rintro e w1 ⟨A9, c9, rfl, _, _, hb1⟩
  obtain ⟨w2, hw2⟩ : ∃ w2, w2 = w1.alloc (.cells #[.slice A9 (framesX most xs).length c9, .int .i64 (restX most xs).length, .int .i64 0, .int .u32 0] 66) := ⟨_, rfl⟩
  have hb2 : Below w0.heap.size w0 w2 := by rw [hw2]; exact hb1.alloc hb1.size _
  have hd2 := keepB hb2 HD0.out
  have ht2 : w2.heap[w1.heap.size]? = some (rtold (.slice A9 (framesX most xs).length c9) (restX most xs).length 0 0) := by rw [hw2]; exact alloc_at _ _
  have HB2 := Lib.hid hb2
  have HD2 := Lib.hid hd2
  have HT2 := Lib.hid ht2
  have HZ := Lib.hid (show w.heap.size + 2 ≤ w1.heap.size ∧ w1.heap.size < w2.heap.size by
    have := hb1.size; have := (Array.getElem?_eq_some_iff.1 HR0.out).1; have := (Array.getElem?_eq_some_iff.1 ht2).1; omega)
  have HW2 := Lib.hid hw2
  have q1 := cell_alloc (cell_blk hd2 rfl : w2.cell? ⟨w.heap.size, 1, none⟩ = some (.slice A xs.length c))
  clear hb1 ht hw0 hb2 hd2 ht2 hw2
  go_upto_region 6 with fail
  rw [← HW2.out]
  go_wp2_with (at_builtin; first | (refine append_at (w0 := w0) rfl _ _ rfl (.slice (some ⟨w2.heap.size, 0, none⟩) 0 0) [] rfl (own_new w2 w0.heap.size [] HB2.out.size (by simp)) A xs.length c xs rfl ((HBA.out.at_ HB2.out).next ((Below.refl _ _).alloc (Nat.le_refl _) _)) (by simp <;> omega) (HB2.out.alloc HB2.out.size _) ?_; intro v3 w3 ho3 hb3 hg3 hat3; rw [List.nil_append] at ho3; have hb23 : Below w2.heap.size w2 w3 := ((Below.refl _ _).alloc (Nat.le_refl _) _).grown hg3 (by simp) (fun k hk => by simp [Value.ownBlock] at hk; omega); have HO3 := Lib.hid ho3; have HB3 := Lib.hid hb3; have HB23 := Lib.hid hb23; have HG3 := Lib.hid (own_ge hat3 (by simp [Value.ownBlock] : (Value.slice (some ⟨w2.heap.size, 0, none⟩) 0 0).ownBlock = some w2.heap.size) (by simp)); clear ho3 hb3 hg3 hb23 hat3) | go_loud (refine append_at (w0 := w0) rfl _ _ rfl v3 xs rfl HO3.out B ys.length d ys rfl (HBB.out.at_ HB3.out) (by omega) HB3.out ?_; intro v4 w4 ho4 hb4 hg4 hat4; obtain ⟨A4, c4, e4, hq4⟩ := Own.bs ho4 (fun x hx => (List.mem_append.1 hx).elim (HX.out x) (HY.out x)); rw [List.length_append] at e4 hq4; subst e4; have HD4 := Lib.hid (keepB hb4 HD0.out); have HR4 := Lib.hid (keepB hb4 HR0.out); have HT4 := Lib.hid ((hg4.block w1.heap.size (by have := HB23.out.size; have := HZ.out.2; omega) (fun e => by have := HG3.out _ e.symm; have := HZ.out.2; omega)).trans (keepB HB23.out HT2.out)); have HO4 := Lib.hid ho4; have HB4 := Lib.hid hb4; clear ho4 hb4 hg4 hat4 hq4; have d0 : w4.cell? ⟨w.heap.size, 0, none⟩ = some (.int .i64 most) := cell_blk HD4.out rfl; have d1 : w4.cell? ⟨w.heap.size, 1, none⟩ = some (.slice A xs.length c) := cell_blk HD4.out rfl; have d2 : ∀ j, w4.frozen? ⟨w.heap.size, j, none⟩ = false := fun j => free_blk HD4.out))
  obtain ⟨w5, hw5⟩ : ∃ w5, w5 = w4.setCell ⟨w.heap.size, 1, none⟩ (.slice A4 (xs.length + ys.length) c4) := ⟨_, rfl⟩
  have hst : ∀ k, k ≠ w.heap.size → w5.heap[k]? = w4.heap[k]? := fun k hk => by rw [hw5]; exact set_other _ hk
  have hd5 : w5.heap[w.heap.size]? = some (rdec most A4 (xs.length + ys.length) c4) := by rw [hw5]; exact set_blk _ HD4.out
  have hr5 := (hst (w.heap.size + 1) (by omega)).trans HR4.out
  have ht5 := (hst w1.heap.size (by have := HZ.out.1; omega)).trans HT4.out
  have hz0 : w.heap.size + 1 < w0.heap.size := (Array.getElem?_eq_some_iff.1 HR0.out).1
  have ho5 := HO4.out.keep (w1 := w5) (fun k hk => hst k (by have := (HO4.out.blk k hk).1; omega))
  have hq5 : Bs w5 A4 (xs.length + ys.length) c4 (xs ++ ys) := by
    have h := HO4.out.keep (w1 := w5) (fun k hk => hst k (by have := (HO4.out.blk k hk).1; omega))
    obtain ⟨A', c', e', hq⟩ := Own.bs h (fun x hx => (List.mem_append.1 hx).elim (HX.out x) (HY.out x))
    rw [List.length_append] at e' hq
    injection e' with e1 e2 e3
    rw [e1, e3]
    exact hq
  have hb5 : Below w.heap.size w w5 := by rw [hw5]; exact (belowT HB0.out (HB4.out.mono (Nat.le_refl _))).setCell (Nat.le_refl _) _
  rw [← hw5]
  have HB5 := Lib.hid hb5
  have HD5 := Lib.hid hd5
  have HR5 := Lib.hid hr5
  have HT5 := Lib.hid ht5
  have HQ5 := Lib.hid hq5
  have ht' := told_F most A4 (xs.length + ys.length) c4 (xs ++ ys) hq5 m1 m2 hn
  have hfx := framesX_app most xs ys
  have HFX := Lib.hid hfx
  have hlx : (framesX most (xs ++ ys)).length = (framesX most xs).length + (newX most xs ys).length := by rw [hfx, List.length_append]
  clear hb5 hd5 hr5 ht5 hq5 hst hw5 d0 d1 d2 hfx HO4
  refine ht'.mono ?_
  rintro e w6 ⟨Ax, cx, rfl, hcx, hF6, hb6⟩
  obtain ⟨lx, hlx'⟩ : ∃ lx, lx = (framesX most (xs ++ ys)).length := ⟨_, rfl⟩
  obtain ⟨l9, hl9⟩ : ∃ l9, l9 = (framesX most xs).length := ⟨_, rfl⟩
  obtain ⟨ln, hln⟩ : ∃ ln, ln = (newX most xs ys).length := ⟨_, rfl⟩
  rw [← hlx', ← hl9, ← hln] at hlx
  rw [← hlx'] at hcx hF6 ⊢
  have HLX := Lib.hid hlx'
  have HL9 := Lib.hid hl9
  have HLN := Lib.hid hln
  have HT5 := HT5
  obtain ⟨w7, hw7⟩ : ∃ w7, w7 = w6.alloc (.cells #[.slice Ax lx cx, .int .i64 (restX most (xs ++ ys)).length, .int .i64 (whyX most (xs ++ ys)), .int .u32 (stX most (xs ++ ys))] 66) := ⟨_, rfl⟩
  have hb57 : Below w5.heap.size w5 w7 := by rw [hw7]; exact hb6.alloc hb6.size _
  have hb67 : Below w6.heap.size w6 w7 := by rw [hw7]; exact (Below.refl _ _).alloc (Nat.le_refl _) _
  have ht7 : w7.heap[w6.heap.size]? = some (rtold (.slice Ax lx cx) (restX most (xs ++ ys)).length (whyX most (xs ++ ys)) (stX most (xs ++ ys))) := by rw [hw7]; exact alloc_at _ _
  have hd7 := keepB hb57 HD5.out
  have hr7 := keepB hb57 HR5.out
  have hs7 := keepB hb57 HT5.out
  rw [← hl9] at hs7
  have HF7 := Lib.hid (Kd.F_below hF6 hb67)
  have HQ7 := Lib.hid (HQ5.out.next hb57)
  have HB7 := Lib.hid (belowT HB5.out hb57)
  have HW7 := Lib.hid hw7
  have q0 : w7.cell? ⟨w.heap.size, 0, none⟩ = some (.int .i64 most) := cell_blk hd7 rfl
  have q1 : w7.cell? ⟨w.heap.size, 1, none⟩ = some (.slice A4 (xs.length + ys.length) c4) := cell_blk hd7 rfl
  have r0 : w7.cell? ⟨w.heap.size + 1, 0, none⟩ = some (.int .i64 0) := cell_blk hr7 rfl
  have r1 : w7.cell? ⟨w.heap.size + 1, 1, none⟩ = some (.slice none 0 0) := cell_blk hr7 rfl
  have r2 : ∀ j, w7.frozen? ⟨w.heap.size + 1, j, none⟩ = false := fun j => free_blk hr7
  have s0 : w7.cell? ⟨w1.heap.size, 0, none⟩ = some (.slice A9 l9 c9) := cell_blk hs7 rfl
  have t0 : w7.cell? ⟨w6.heap.size, 0, none⟩ = some (.slice Ax lx cx) := cell_blk ht7 rfl
  have t2 : w7.cell? ⟨w6.heap.size, 2, none⟩ = some (.int .i64 (whyX most (xs ++ ys))) := cell_blk ht7 rfl
  have hs1 : (l9 : Int) ≤ lx := by omega
  have hsub : lx - l9 = ln := by omega
  have HLQ := Lib.hid hlx
  have n1 : ¬ w1.heap.size = w.heap.size + 1 := by have := HZ.out.1; omega
  have n2 : ¬ w6.heap.size = w.heap.size + 1 := by have := hb6.size; have := (Array.getElem?_eq_some_iff.1 HT5.out).1; have := HZ.out.1; omega
  have n3 : ¬ w.heap.size + 1 = w1.heap.size := by omega
  have n4 : ¬ w.heap.size + 1 = w6.heap.size := by omega
  have HCX := Lib.hid hcx
  have HO7 := Lib.hid (ho5.keep (w1 := w7) fun k hk => hb57.block k (ho5.blk k hk).2)
  have HZ5 := Lib.hid (show w.heap.size + 2 ≤ w5.heap.size by have := (Array.getElem?_eq_some_iff.1 HT5.out).1; have := HZ.out.1; omega)
  clear hlx hlx' hl9 hln hw7 ho5 hb57 hb67 ht7 hd7 hr7 hs7 hF6 hb6 ht' HT5 HD5 HR5
  go_upto_region 10 with fail
  rw [← HW7.out]
  by_cases hcm : cx = l9
  · go_region
    have hF9 := rf_frames (c := cx) HF7.out HLX.out HL9.out HFX.out HCX.out
    rw [if_pos hcm] at hF9
    go_wp2_with fail
    obtain ⟨w8, hw8⟩ : ∃ w8, w8 = ((w7.setCell ⟨w.heap.size + 1, 0, none⟩ (.int .i64 most)).setCell ⟨w.heap.size + 1, 1, none⟩ (.slice A4 (xs.length + ys.length) c4)).drew := ⟨_, rfl⟩
    have hst8 : ∀ k, k ≠ w.heap.size + 1 → w8.heap[k]? = w7.heap[k]? := fun k hk => by rw [hw8]; show ((w7.setCell ⟨w.heap.size + 1, 0, none⟩ (.int .i64 most)).setCell ⟨w.heap.size + 1, 1, none⟩ (.slice A4 (xs.length + ys.length) c4)).heap[k]? = _; rw [set_other _ hk, set_other _ hk]
    have hb8 : Below w.heap.size w w8 := by rw [hw8]; exact ((HB7.out.setCell (by simp) _).setCell (by simp) _).drew
    have hq8 : FBs w8 (fun k => w.heap.size ≤ k) A4 (xs.length + ys.length) c4 (xs ++ ys) := (own_fbs (HO7.out.keep (w1 := w8) fun k hk => hst8 k (by have := (HO7.out.blk k hk).1; omega)) (fun x hx => (List.mem_append.1 hx).elim (HX.out x) (HY.out x))).mono fun k hk => (show w.heap.size ≤ k by omega)
    have hF8 : Kd.F kFr w8 (fun k => w.heap.size ≤ k) Ax ln (newX most xs ys) := by
      have h := Kd.F_mono (Kd.F_step hF9 (W1 := w8) fun k hk _ => hst8 k (by have := HZ5.out; omega)) fun k hk => (show w.heap.size ≤ k by have := HZ5.out; omega)
      rw [HLN.out]
      exact h
    refine bodyPost_ret (v := .tuple #[.agg #[.int .i64 most, .slice A4 (xs.length + ys.length) c4], .slice Ax ln 0, .int .i64 (whyX most (xs ++ ys))]) ?_ rfl ⟨A4, c4, Ax, 0, by rw [← HLN.out], ?_, ?_, ?_⟩
    · simp [results, Tryd.results32, go_sem, r0, r1]
    · rw [hw8] at hq8; exact hq8
    · rw [hw8] at hF8; rw [← HLN.out]; exact hF8
    · rw [hw8] at hb8; exact hb8
  · go_region
    have hF9 := rf_frames (c := cx) HF7.out HLX.out HL9.out HFX.out HCX.out
    rw [if_neg hcm] at hF9
    go_wp2_with fail
    obtain ⟨w8, hw8⟩ : ∃ w8, w8 = ((w7.setCell ⟨w.heap.size + 1, 0, none⟩ (.int .i64 most)).setCell ⟨w.heap.size + 1, 1, none⟩ (.slice A4 (xs.length + ys.length) c4)).drew := ⟨_, rfl⟩
    have hst8 : ∀ k, k ≠ w.heap.size + 1 → w8.heap[k]? = w7.heap[k]? := fun k hk => by rw [hw8]; show ((w7.setCell ⟨w.heap.size + 1, 0, none⟩ (.int .i64 most)).setCell ⟨w.heap.size + 1, 1, none⟩ (.slice A4 (xs.length + ys.length) c4)).heap[k]? = _; rw [set_other _ hk, set_other _ hk]
    have hb8 : Below w.heap.size w w8 := by rw [hw8]; exact ((HB7.out.setCell (by simp) _).setCell (by simp) _).drew
    have hq8 : FBs w8 (fun k => w.heap.size ≤ k) A4 (xs.length + ys.length) c4 (xs ++ ys) := (own_fbs (HO7.out.keep (w1 := w8) fun k hk => hst8 k (by have := (HO7.out.blk k hk).1; omega)) (fun x hx => (List.mem_append.1 hx).elim (HX.out x) (HY.out x))).mono fun k hk => (show w.heap.size ≤ k by omega)
    have hF8 : Kd.F kFr w8 (fun k => w.heap.size ≤ k) (Ax.map (·.add (l9 * 6))) ln (newX most xs ys) := by
      have h := Kd.F_mono (Kd.F_step hF9 (W1 := w8) fun k hk _ => hst8 k (by have := HZ5.out; omega)) fun k hk => (show w.heap.size ≤ k by have := HZ5.out; omega)
      rw [HLN.out]
      exact h
    refine bodyPost_ret (v := .tuple #[.agg #[.int .i64 most, .slice A4 (xs.length + ys.length) c4], .slice (Ax.map (·.add (l9 * 6))) ln (cx - l9), .int .i64 (whyX most (xs ++ ys))]) ?_ rfl ⟨A4, c4, (Ax.map (·.add (l9 * 6))), (cx - l9), by rw [← HLN.out], ?_, ?_, ?_⟩
    · simp [results, Tryd.results32, go_sem, r0, r1]
    · rw [hw8] at hq8; exact hq8
    · rw [hw8] at hF8; rw [← HLN.out]; exact hF8
    · rw [hw8] at hb8; exact hb8
/-- Feed, whatever became of the decoder: zs is what it keeps. -/
theorem rfeed_any {w : World} {ok : Nat → Prop} (most : Int) (A : Option Addr) (n c : Nat) (xs : List Int) (hB : FBs w ok A n c xs) (B : Option Addr) (m d : Nat) (ys : List Int) (hY : Bs w B m d ys) (m1 : 1 ≤ most) (m2 : most ≤ 65536) (hn : n + m ≤ 1000000000) :
    Calls Tryd.prog 32 #[.agg #[.int .i64 most, .slice A n c], .slice B m d] w fun e w' => ∃ A' n' c' zs F f, e = .returned (.tuple #[.agg #[.int .i64 most, .slice A' n' c'], .slice F (newX most xs ys).length f, .int .i64 (whyX most (xs ++ ys))]) ∧ n' ≤ n + m ∧ cut most zs = cut most (xs ++ ys) ∧ (∀ x ∈ zs, 0 ≤ x ∧ x ≤ 255) ∧ FBs w' (fun k => ok k ∨ w.heap.size ≤ k) A' n' c' zs ∧ Kd.F kFr w' (fun k => w.heap.size ≤ k) F (newX most xs ys).length (newX most xs ys) ∧ Below w.heap.size w w' := by
  by_cases hc : codeX most xs = 0
  · refine (rfeed_live most A n c xs hB.now B m d ys hY m1 m2 hn hc).mono ?_
    rintro e w' ⟨A', c', F, f, he, hq, hF, hb⟩
    exact ⟨A', n + m, c', xs ++ ys, F, f, he, Nat.le_refl _, rfl, hq.now.byt, hq.mono fun k hk => .inr hk, hF, hb⟩
  · refine (rfeed_dead most A n c xs hB.now m1 m2 (by omega) hc (.slice B m d)).mono ?_
    rintro e w' ⟨he, hb⟩
    have e0 := app_dead (ys := ys) hc
    have e1 : newX most xs ys = [] := by unfold newX; rw [if_neg hc]
    have e2 : whyX most (xs ++ ys) = whyX most xs := by unfold whyX codeX; rw [e0]
    refine ⟨A, n, c, xs, none, 0, ?_, by omega, e0.symm, hB.now.byt, (hB.below hb).mono fun k hk => .inl hk, ?_, hb⟩
    · rw [e1, e2]; exact he
    · rw [e1]; exact Kd.F_nil _ _ _
/-- A decoder's facts hang on what its bytes tell alone. -/
theorem DecV.cut_eq {sa : Nat → Addr} {w0 w : World} {g b : Nat} {most : Int} {xs zs : List Int} {v : Value} (h : DecV sa w0 w g most xs v b) (e : cut most zs = cut most xs) : DecV sa w0 w g most zs v b := by
  have e1 : codeX most zs = codeX most xs := by unfold codeX; rw [e]
  have e2 : restX most zs = restX most xs := by unfold restX; rw [e]
  have e3 : stX most zs = stX most xs := by unfold stX; rw [e]
  exact ⟨fun hc => by rw [e2]; exact h.live (e1 ▸ hc), fun hc => by rw [e1, e3]; exact h.dead (e1 ▸ hc)⟩
set_option maxRecDepth 100000 in
theorem fails_nil {w : World} (s : Int) :
    Calls Tryd.prog 38 #[.nilIface, .int .i64 0, .int .u32 s] w fun e w' => e = .returned (.bool true) ∧ Below w.heap.size w w' := by
  go_enter Tryd.func38, Tryd.ntmps38
  go_wp2_with fail
  refine (code_nil _).mono ?_
  rintro e w' ⟨rfl, rfl⟩
  go_wp2_with fail
  go_ret
  exact ⟨rfl, Below.refl _ _⟩
set_option maxRecDepth 100000 in
theorem fails_one {sa : Nat → Addr} {w : World} (hG : Good w sa) (s : Int) :
    Calls Tryd.prog 38 #[sv (sa 1), .int .i64 1, .int .u32 s] w fun e w' => e = .returned (.bool true) ∧ Below w.heap.size w w' := by
  have hc := code_any hG (.inr (.inl ⟨by omega, by omega, rfl⟩) : EV sa w 1 0 (sv (sa 1)))
  clear hG
  go_enter Tryd.func38, Tryd.ntmps38
  go_wp2_with fail
  refine hc.mono ?_
  rintro e w' ⟨rfl, rfl⟩
  go_wp2_with fail
  go_ret
  exact ⟨rfl, Below.refl _ _⟩
set_option maxRecDepth 100000 in
theorem fails_dec {sa : Nat → Addr} {w0 w : World} {g b : Nat} {most : Int} {xs : List Int} {v : Value} (hG : Good w sa) (hT : ErT w) (h : DecV sa w0 w g most xs v b) :
    Calls Tryd.prog 38 #[errX most xs b, .int .i64 (whyX most xs), .int .u32 (stX most xs)] w fun e w' => e = .returned (.bool true) ∧ Below w.heap.size w w' := by
  by_cases hc : codeX most xs = 0
  · have h1 : errX most xs b = .nilIface := by unfold errX; rw [if_pos hc]
    have h2 : whyX most xs = 0 := by unfold whyX; rw [if_pos hc]
    rw [h1, h2]
    exact fails_nil _
  · have hcode := code_any hG h.ev
    have hs := stream_viol hT b (stX most xs) (cell_blk (h.dead hc).2.1 rfl)
    have h1 : errX most xs b = vv b 0 := by unfold errX; rw [if_neg hc]
    have hd : decide ((whyX most xs : Int) < 1000) = false := by unfold whyX; rw [if_neg hc]; simp; omega
    rw [h1] at hcode ⊢
    clear hG hT h hc h1
    go_enter Tryd.func38, Tryd.ntmps38
    go_wp2_with fail
    refine hcode.mono ?_
    rintro e w' ⟨rfl, rfl⟩
    go_wp2_with fail
    refine hs.mono ?_
    rintro e w2 ⟨rfl, hb2⟩
    have HB2 := Lib.hid hb2
    clear hb2
    go_wp2_with fail
    go_ret
    exact ⟨rfl, HB2.out⟩
end Go.Proofs.YtfddhipdedcacaaDoor
/-
  culvertref05 at a nil decoder.
-/
namespace Go.Proofs.YtfddhipdedcacaaDoor
open Go.RowKit Go.Proofs.YtfddhipdedcacaaDoorW.PrintWords Go.Proofs.YtfddhipdedcacaaDoorW.PrintLast Go.Proofs.YtfddhipdedcacaaDoorW.PrintMore Go.Proofs.YtfddhipdedcacaaDoor.PFeedPieces
set_option linter.unusedVariables false
set_option linter.unusedSimpArgs false
abbrev rnil : Value := .agg #[.int .i64 0, .slice none 0 0]
set_option maxRecDepth 100000 in
theorem told_zero {w : World} : Calls Tryd.prog 37 #[rnil] w fun e w' => e = .returned (.agg #[.slice none 0 0, .int .i64 0, .int .i64 0, .int .u32 0]) ∧ Below w.heap.size w w' := by
  have hs := TS.start (w := w) (most := 0) (A := none) (n := 0) (c := 0) (xs := []) rfl
  have p1 := cell_blk hs.dbx (j := 1) rfl
  go_enter Tryd.func37, Tryd.ntmps37
  go_wp2_with fail
  refine wp_loop_rounds 1 ?_
  rw [rounds_succ]
  go_wp2_with fail
  refine bodyPost_ret (v := .agg #[.slice none 0 0, .int .i64 0, .int .i64 0, .int .u32 0]) ?_ rfl ⟨rfl, ?_⟩
  · simp [results, Tryd.results37, go_sem]
  · exact (((Below.refl _ _).alloc (Nat.le_refl _) _).alloc (by simp) _).alloc (by simp <;> omega) _
set_option maxRecDepth 100000 in
theorem rheld_zero {w : World} : Calls Tryd.prog 35 #[rnil] w fun e w' => e = .returned (.int .i64 0) ∧ Below w.heap.size w w' := by
  obtain ⟨w0, hw0⟩ : ∃ w0, w0 = w.alloc (.cells #[.int .i64 0, .slice none 0 0] 53) := ⟨_, rfl⟩
  have HB0 := Lib.hid (show Below w.heap.size w w0 by rw [hw0]; exact (Below.refl _ _).alloc (Nat.le_refl _) _)
  go_enter Tryd.func35, Tryd.ntmps35
  go_wp2_with fail
  rw [← hw0]
  refine told_zero.mono ?_
  rintro e w1 ⟨rfl, hb1⟩
  have HB1 := Lib.hid (belowT HB0.out (hb1.alloc hb1.size (.cells #[.slice none 0 0, .int .i64 0, .int .i64 0, .int .u32 0] 66)))
  clear hb1 hw0
  go_wp2_with fail
  go_ret
  exact ⟨rfl, HB1.out⟩
set_option maxRecDepth 100000 in
theorem rwants_zero {w : World} : Calls Tryd.prog 36 #[rnil] w fun e w' => e = .returned (.int .i64 0) ∧ Below w.heap.size w w' := by
  obtain ⟨w0, hw0⟩ : ∃ w0, w0 = w.alloc (.cells #[.int .i64 0, .slice none 0 0] 53) := ⟨_, rfl⟩
  have HB0 := Lib.hid (show Below w.heap.size w w0 by rw [hw0]; exact (Below.refl _ _).alloc (Nat.le_refl _) _)
  have HD0 := Lib.hid (show w0.heap[w.heap.size]? = some (rdec 0 none 0 0) by rw [hw0]; exact alloc_at _ _)
  go_enter Tryd.func36, Tryd.ntmps36
  go_wp2_with fail
  rw [← hw0]
  refine told_zero.mono ?_
  rintro e w1 ⟨rfl, hb1⟩
  have HB1 := Lib.hid (belowT HB0.out (hb1.alloc hb1.size (.cells #[.slice none 0 0, .int .i64 0, .int .i64 0, .int .u32 0] 66)))
  have q0 := cell_alloc (keepA hb1 (cell_blk HD0.out rfl : w0.cell? ⟨w.heap.size, 0, none⟩ = some (.int .i64 0)))
  clear hb1 hw0
  go_wp2_with fail
  go_ret
  exact ⟨rfl, HB1.out⟩
set_option maxRecDepth 100000 in
theorem rfeed_zero {w : World} (x : Value) : Calls Tryd.prog 32 #[rnil, x] w fun e w' => e = .returned (.tuple #[rnil, .slice none 0 0, .int .i64 1]) ∧ Below w.heap.size w w' := by
  go_enter Tryd.func32, Tryd.ntmps32
  go_wp2_with fail
  refine bodyPost_ret (v := .tuple #[rnil, .slice none 0 0, .int .i64 1]) ?_ rfl ⟨rfl, ?_⟩
  · simp [results, Tryd.results32, go_sem]
  · exact ((Below.refl _ _).alloc (Nat.le_refl _) _).alloc (by simp) _
end Go.Proofs.YtfddhipdedcacaaDoor
