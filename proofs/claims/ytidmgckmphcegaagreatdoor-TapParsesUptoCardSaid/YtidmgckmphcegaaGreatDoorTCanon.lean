/-
  TapCanon, walked: a line that is read is the line of what was read.
-/
import Derived.Test.YtidmgckmphcegaaGreatDoorMM
import Derived.Test.YtidmgckmphcegaaGreatDoorTSame
namespace Go.Proofs.YtidmgckmphcegaaGreatDoor
open Go.RowKit Go.Proofs.YtidmgckmphcegaaGreatDoorW.PrintWords Go.Proofs.YtidmgckmphcegaaGreatDoorW.PrintLast Go.Proofs.YtidmgckmphcegaaGreatDoor.Px
set_option linter.unusedVariables false
set_option linter.unusedSimpArgs false
theorem ba_eta (s : ByteArray) : (⟨s.data.toList.toArray⟩ : ByteArray) = s := by cases s; simp
theorem ba_cat (a b : ByteArray) : (a ++ b).data.toList = a.data.toList ++ b.data.toList := by simp [ByteArray.data_append]
theorem ba_len (t : ByteArray) : t.size = t.data.toList.length := by simp
theorem bs_nil (w : World) : Bs w none 0 0 [] := ⟨rfl, Nat.le_refl _, by omega, (by simp), fun _ => ⟨rfl, rfl⟩, fun h => absurd h (by simp)⟩
theorem EV_c {sa : Nat → Addr} {w : World} {c : Nat} (h : c = 40 ∨ c = 41 ∨ c = 15) : EV sa w c 0 (sv (sa c)) := .inr (.inl ⟨by omega, by omega, rfl⟩)
/-- A line that is more than another's is no line of that frame. -/
theorem canon_ne {l m : List UInt8} {h g : Hd} {d e : List Int} (h1 : gparse l = .ok (h, d)) (h2 : gparse m = .ok (g, e)) (hne : l.length ≠ m.length) : ¬ (h = g ∧ d = e) := by
  rintro ⟨rfl, rfl⟩
  have e1 := (gparse_ok h1).2.2.1
  have e2 := (gparse_ok h2).2.2.1
  exact hne (by rw [← e1, ← e2])
theorem canon_sz {l : List UInt8} {h : Hd} {d : List Int} (h1 : gparse l = .ok (h, d)) : (d.length : Int) = szF h.ty h.ln := by
  obtain ⟨_, _, _, h4, h5⟩ := gparse_ok h1
  unfold szF
  by_cases e : h.ty = 0
  · rw [if_pos (by omega), h4 e]
  · rw [if_neg (by omega), h5 e]; rfl
/-- What Parse left: a frame with memory of its own. -/
theorem ParseTo.ok {sa : Nat → Addr} {w : World} {l : List UInt8} {e : Ending} {w' : World} {h : Hd} {d : List Int} (hp : ParseTo sa w l e w') (hg : gparse l = .ok (h, d)) : ∃ A c, e = .returned (.tuple #[.agg (fcs h.ver h.ty h.fl h.st h.ln (.slice A d.length c)), .nilIface]) ∧ Bs w' A d.length c d ∧ Below w.heap.size w w' := by
  unfold ParseTo at hp
  rw [hg] at hp
  obtain ⟨v, rfl, ho, hb⟩ := hp
  obtain ⟨A, c, rfl, hq⟩ := Own.bs ho (gparse_ok hg).2.1
  exact ⟨A, c, rfl, hq, hb⟩
theorem ParseTo.err {sa : Nat → Addr} {w : World} {l : List UInt8} {e : Ending} {w' : World} {c : Nat} (hp : ParseTo sa w l e w') (hg : gparse l = .error c) : e = .returned (.tuple #[.agg (fcs 0 0 0 0 0 nilS), sv (sa c)]) ∧ Below w.heap.size w w' := by
  unfold ParseTo at hp
  rw [hg] at hp
  exact hp
theorem ParseTo.ne {sa : Nat → Addr} {w : World} {l m : List UInt8} {e : Ending} {w' : World} {h : Hd} {d : List Int} (hp : ParseTo sa w m e w') (h1 : gparse l = .ok (h, d)) (hne : l.length ≠ m.length) :
    ∃ (ver ty fl st ln : Nat) (A : Option Addr) (n c : Nat) (ys : List Int) (ev : Value), e = .returned (.tuple #[.agg (fcs ver ty fl st ln (.slice A n c)), ev]) ∧ Bs w' A n c ys ∧ ((ev = .nilIface ∧ ¬ (((⟨h.ver, h.ty, h.fl, h.st, h.ln⟩ : Hd) = ⟨ver, ty, fl, st, ln⟩) ∧ d = ys)) ∨ (∃ k, ev = sv (sa k))) ∧ Below w.heap.size w w' := by
  cases hg : gparse m with
  | error c =>
    obtain ⟨rfl, hb⟩ := hp.err hg
    exact ⟨0, 0, 0, 0, 0, none, 0, 0, [], _, rfl, bs_nil _, .inr ⟨c, rfl⟩, hb⟩
  | ok x =>
    obtain ⟨g, z⟩ := x
    obtain ⟨A, c, rfl, hq, hb⟩ := hp.ok hg
    exact ⟨g.ver, g.ty, g.fl, g.st, g.ln, A, _, c, z, _, rfl, hq, .inl ⟨rfl, canon_ne h1 hg hne⟩, hb⟩
theorem FB.of_blk {g : Nat} {ver ty fl st ln : Int} {A : Option Addr} {n c : Nat} {w : World} (h : w.heap[g]? = some (.cells #[.int .u8 ver, .int .u8 ty, .int .u16 fl, .int .u32 st, .int .u32 ln, .slice A n c] 28 (0, 0))) : FB g ver ty fl st ln A n c w :=
  ⟨cell_blk h rfl, cell_blk h rfl, cell_blk h rfl, cell_blk h rfl, cell_blk h rfl, cell_blk h rfl⟩
theorem false_of {bb : Bool} {P : Prop} (h : bb = true ↔ P) (hn : ¬ P) : bb = false := by
  cases bb
  · rfl
  · exact absurd (h.1 rfl) hn
theorem tparse {sa : Nat → Addr} {w : World} (hE : TE sa w) (s : ByteArray) (hs : s.size ≤ 4294967280) : Calls Tryz.prog 21 #[.string s] w (ParseTo sa w s.data.toList) :=
  parse_any s (by omega) w hE.good hE.pow hE.wrd hE.ner (fun w' hb => splits_small 32 s w' (by omega) (hE.mxl.below hb))
set_option maxRecDepth 100000 in
set_option maxHeartbeats 4000000 in
theorem tapCanon_walk {sa : Nat → Addr} {w : World} (hE : TE sa w) (s t : ByteArray) (hs : s.size ≤ 1048576) (ht : t.size ≤ 1048576) :
    Calls Tryz.prog 7 #[.string s, .string t] w fun e w' => e = .returned (.bool true) ∧ Below w.heap.size w w' := by
  have HE := Lib.hid hE
  clear hE
  go_enter Tryz.func7, Tryz.ntmps7
  go_wp2_with fail
  refine (wakes_any HE.out).mono ?_
  rintro e w1 ⟨rfl, hb1⟩
  have HB1 := Lib.hid hb1
  clear hb1
  go_wp2_with fail
  refine (tparse (HE.out.below HB1.out) s (by omega)).mono ?_
  intro e w2 hp2
  cases hg : gparse s.data.toList with
  | error c =>
    obtain ⟨rfl, hb2⟩ := hp2.err hg
    have hc := gparse_err hg
    have HB2 := Lib.hid (belowT HB1.out hb2)
    clear hp2 hb2 hg
    go_wp2_with fail
    obtain ⟨w3, hw3⟩ : ∃ w3, w3 = w2.alloc (.cells #[.int .u8 0, .int .u8 0, .int .u16 0, .int .u32 0, .int .u32 0, .slice none 0 0] 28) := ⟨_, rfl⟩
    have hh3 := alloc_at w2 (.cells #[.int .u8 0, .int .u8 0, .int .u16 0, .int .u32 0, .int .u32 0, .slice none 0 0] 28)
    have hb3 : Below w2.heap.size w2 w3 := by rw [hw3]; exact (Below.refl _ _).alloc (Nat.le_refl _) _
    rw [← hw3] at hh3 ⊢
    have HB3 := Lib.hid (belowT HB2.out hb3)
    have e0 : w3.cell? ⟨w2.heap.size, 0, none⟩ = some (.int .u8 0) := cell_blk hh3 rfl
    have e1 : w3.cell? ⟨w2.heap.size, 1, none⟩ = some (.int .u8 0) := cell_blk hh3 rfl
    have e2 : w3.cell? ⟨w2.heap.size, 2, none⟩ = some (.int .u16 0) := cell_blk hh3 rfl
    have e3 : w3.cell? ⟨w2.heap.size, 3, none⟩ = some (.int .u32 0) := cell_blk hh3 rfl
    have e4 : w3.cell? ⟨w2.heap.size, 4, none⟩ = some (.int .u32 0) := cell_blk hh3 rfl
    have e5 : w3.cell? ⟨w2.heap.size, 5, none⟩ = some (.slice none 0 0) := cell_blk hh3 rfl
    clear hw3 hh3 hb3
    refine (code_any (sa := sa) (w := w3) (c := c) (s := 0) (v := sv (sa c)) (HE.out.below HB3.out).good (EV_c hc)).mono ?_
    rintro e w3 ⟨rfl, rfl⟩
    go_wp2_with fail
    refine (same04 0 0 0 0 0 0 0 0 0 0 (bs_nil w3) (bs_nil w3)).mono ?_
    rintro e w4 ⟨bb, rfl, hbb, hb4⟩
    obtain rfl : bb = true := hbb.2 ⟨rfl, rfl⟩
    have HB4 := Lib.hid (belowT HB3.out hb4)
    clear hbb hb4 e0 e1 e2 e3 e4 e5
    obtain rfl | rfl | rfl := hc
    all_goals
      go_wp2_with fail
      go_ret
      exact ⟨rfl, HB4.out⟩
  | ok x =>
    obtain ⟨h, d⟩ := x
    obtain ⟨A2, c2, rfl, hq2, hb2⟩ := hp2.ok hg
    have hok := (gparse_ok hg).1
    have hln := (gparse_ok hg).2.2.1
    have hsz := canon_sz hg
    have o0 := hok.ver
    have o1 := hok.ty
    have o2 := hok.fl
    have o3 := hok.st
    have o4 := hok.ln
    have HGP := Lib.hid hg
    have HLN := Lib.hid hln
    have HSZ := Lib.hid hsz
    have HB2 := Lib.hid (belowT HB1.out hb2)
    have HQ2 := Lib.hid hq2
    clear hp2 hb2 hg hok hln hsz hq2
    go_wp2_with fail
    obtain ⟨w3, hw3⟩ : ∃ w3, w3 = w2.alloc (.cells #[.int .u8 h.ver, .int .u8 h.ty, .int .u16 h.fl, .int .u32 h.st, .int .u32 h.ln, .slice A2 d.length c2] 28) := ⟨_, rfl⟩
    have hb3 : Below w2.heap.size w2 w3 := by rw [hw3]; exact (Below.refl _ _).alloc (Nat.le_refl _) _
    have hh3 : w3.heap[w2.heap.size]? = some (.cells #[.int .u8 h.ver, .int .u8 h.ty, .int .u16 h.fl, .int .u32 h.st, .int .u32 h.ln, .slice A2 d.length c2] 28 (0, 0)) := by rw [hw3]; exact alloc_at _ _
    rw [← hw3]
    have HB3 := Lib.hid (belowT HB2.out hb3)
    have HQ3 := Lib.hid (HQ2.out.next hb3)
    have HH3 := Lib.hid hh3
    clear hw3 hh3 hb3 HQ2
    have hE3 := HE.out.below HB3.out
    have hl := line_any h.ver h.ty h.fl h.st h.ln A2 d.length c2 d w3 hE3.good hE3.pow hE3.wrd HQ3.out.toRd (by omega) (by omega) (by omega) (by omega) (by omega)
    rw [if_pos HSZ.out, show lineB ⟨h.ver, h.ty, h.fl, h.st, h.ln⟩ d = s.data.toList from HLN.out, ba_eta] at hl
    refine hl.mono ?_
    rintro e w4 ⟨rfl, hb4⟩
    have HB4 := Lib.hid (belowT HB3.out hb4)
    have HQ4 := Lib.hid (HQ3.out.next hb4)
    have HH4 := Lib.hid (keepB hb4 HH3.out)
    clear hl hb4 hE3 HH3 HQ3
    by_cases htz : t.toList = []
    · have ht1 : (t.toList == []) = true := by rw [htz]; rfl
      go_wp2_with fail
      go_ret
      exact ⟨rfl, HB4.out⟩
    · have ht1 : (t.toList == []) = false := by simpa using htz
      have htp : 0 < t.data.toList.length := by
        rw [Lib.toList_data] at htz
        exact List.length_pos_iff.2 htz
      have hss : ¬ 9223372036854775807 < s.size + t.size := by omega
      have hss2 : ¬ 9223372036854775807 < t.size + s.size := by omega
      obtain ⟨st, hst⟩ : ∃ st, st = s ++ t := ⟨_, rfl⟩
      obtain ⟨ts, hts⟩ : ∃ ts, ts = t ++ s := ⟨_, rfl⟩
      have l1 : st.data.toList.length = s.data.toList.length + t.data.toList.length := by rw [hst, ba_cat, List.length_append]
      have l2 : ts.data.toList.length = t.data.toList.length + s.data.toList.length := by rw [hts, ba_cat, List.length_append]
      have z1 : st.size ≤ 2097152 := by rw [ba_len, l1, ← ba_len, ← ba_len]; omega
      have z2 : ts.size ≤ 2097152 := by rw [ba_len, l2, ← ba_len, ← ba_len]; omega
      have HST := Lib.hid hst
      have HTS := Lib.hid hts
      have HL1 := Lib.hid l1
      have HL2 := Lib.hid l2
      have HTP := Lib.hid htp
      clear hst hts l1 l2 htp htz
      go_wp2_with fail
      rw [← HST.out]
      refine (tparse (HE.out.below HB4.out) st (by omega)).mono ?_
      intro e w5 hp5
      obtain ⟨v1, t1, f1, s1, l1, A5, n5, c5, y5, ev5, rfl, hq5, hv5, hb5⟩ := hp5.ne HGP.out (by rw [HL1.out]; have := HTP.out; omega)
      have HV5 := Lib.hid hv5
      have HB5 := Lib.hid (belowT HB4.out hb5)
      have HH5 := Lib.hid (keepB hb5 HH4.out)
      have HQ5 := Lib.hid (HQ4.out.next hb5)
      have HY5 := Lib.hid hq5
      clear hp5 hv5 hb5 hq5 HH4 HQ4
      go_wp2_with fail
      obtain ⟨w6, hw6⟩ : ∃ w6, w6 = w5.alloc (.cells #[.int .u8 v1, .int .u8 t1, .int .u16 f1, .int .u32 s1, .int .u32 l1, .slice A5 n5 c5] 28) := ⟨_, rfl⟩
      have hb6 : Below w5.heap.size w5 w6 := by rw [hw6]; exact (Below.refl _ _).alloc (Nat.le_refl _) _
      have hh6 : w6.heap[w5.heap.size]? = some (.cells #[.int .u8 v1, .int .u8 t1, .int .u16 f1, .int .u32 s1, .int .u32 l1, .slice A5 n5 c5] 28 (0, 0)) := by rw [hw6]; exact alloc_at _ _
      rw [← HTS.out, ← hw6]
      have HB6 := Lib.hid (belowT HB5.out hb6)
      have HH6 := Lib.hid (keepB hb6 HH5.out)
      have HQ6 := Lib.hid (HQ5.out.next hb6)
      have HY6 := Lib.hid (HY5.out.next hb6)
      have HZ6 := Lib.hid hh6
      clear hw6 hb6 hh6 HH5 HQ5 HY5
      refine (tparse (HE.out.below HB6.out) ts (by omega)).mono ?_
      intro e w7 hp7
      obtain ⟨v2, t2, f2, s2, l2, A7, n7, c7, y7, ev7, rfl, hq7, hv7, hb7⟩ := hp7.ne HGP.out (by rw [HL2.out]; have := HTP.out; omega)
      have HV7 := Lib.hid hv7
      have HB7 := Lib.hid (belowT HB6.out hb7)
      have HH7 := Lib.hid (keepB hb7 HH6.out)
      have HQ7 := Lib.hid (HQ6.out.next hb7)
      have HZ7 := Lib.hid (keepB hb7 HZ6.out)
      have HY7 := Lib.hid (HY6.out.next hb7)
      have HX7 := Lib.hid hq7
      clear hp7 hv7 hb7 hq7 HH6 HQ6 HZ6 HY6
      go_wp2_with fail
      obtain ⟨w8, hw8⟩ : ∃ w8, w8 = w7.alloc (.cells #[.int .u8 v2, .int .u8 t2, .int .u16 f2, .int .u32 s2, .int .u32 l2, .slice A7 n7 c7] 28) := ⟨_, rfl⟩
      have hb8 : Below w7.heap.size w7 w8 := by rw [hw8]; exact (Below.refl _ _).alloc (Nat.le_refl _) _
      have hz8 : w8.heap[w7.heap.size]? = some (.cells #[.int .u8 v2, .int .u8 t2, .int .u16 f2, .int .u32 s2, .int .u32 l2, .slice A7 n7 c7] 28 (0, 0)) := by rw [hw8]; exact alloc_at _ _
      rw [← hw8]
      have HB8 := Lib.hid (belowT HB7.out hb8)
      have HH8 := Lib.hid (keepB hb8 HH7.out)
      have HQ8 := Lib.hid (HQ7.out.next hb8)
      have HZ8 := Lib.hid (keepB hb8 HZ7.out)
      have HY8 := Lib.hid (HY7.out.next hb8)
      have HX8 := Lib.hid (HX7.out.next hb8)
      have HU8 := Lib.hid hz8
      clear hw8 hb8 hz8 HH7 HQ7 HZ7 HY7 HX7
      have hv5 := HV5.out
      have hv7 := HV7.out
      rcases hv5 with ⟨rfl, hne5⟩ | ⟨k5, rfl⟩
      · have hne5 := Lib.hid hne5
        obtain ⟨a0, a1, a2, a3, a4, a5⟩ := FB.of_blk HH8.out
        obtain ⟨b0, b1, b2, b3, b4, b5⟩ := FB.of_blk HZ8.out
        go_wp2_with fail
        refine (same04 h.ver h.ty h.fl h.st h.ln v1 t1 f1 s1 l1 HQ8.out HY8.out).mono ?_
        rintro e w9 ⟨bb, rfl, hbb, hb9⟩
        obtain rfl := false_of hbb hne5.out
        clear hbb hne5 a0 a1 a2 a3 a4 a5 b0 b1 b2 b3 b4 b5
        have hq9 := HQ8.out.next hb9
        have hx9 := HX8.out.next hb9
        have hh9 := keepB hb9 HH8.out
        have hu9 := keepB hb9 HU8.out
        have hb09 := belowT HB8.out hb9
        have HQ9 := Lib.hid hq9
        have HX9 := Lib.hid hx9
        have HH9 := Lib.hid hh9
        have HU9 := Lib.hid hu9
        have HB9 := Lib.hid hb09
        clear hq9 hx9 hh9 hu9 hb09 hb9
        rcases hv7 with ⟨rfl, hne7⟩ | ⟨k7, rfl⟩
        · have hne7 := Lib.hid hne7
          obtain ⟨a0, a1, a2, a3, a4, a5⟩ := FB.of_blk HH9.out
          obtain ⟨b0, b1, b2, b3, b4, b5⟩ := FB.of_blk HU9.out
          go_wp2_with fail
          refine (same04 h.ver h.ty h.fl h.st h.ln v2 t2 f2 s2 l2 HQ9.out HX9.out).mono ?_
          rintro e wa ⟨bb, rfl, hbb, hba⟩
          obtain rfl := false_of hbb hne7.out
          go_wp2_with fail
          go_ret
          exact ⟨rfl, belowT HB9.out hba⟩
        · go_wp2_with fail
          go_ret
          exact ⟨rfl, HB9.out⟩
      · rcases hv7 with ⟨rfl, hne7⟩ | ⟨k7, rfl⟩
        · have hne7 := Lib.hid hne7
          obtain ⟨a0, a1, a2, a3, a4, a5⟩ := FB.of_blk HH8.out
          obtain ⟨b0, b1, b2, b3, b4, b5⟩ := FB.of_blk HU8.out
          go_wp2_with fail
          refine (same04 h.ver h.ty h.fl h.st h.ln v2 t2 f2 s2 l2 HQ8.out HX8.out).mono ?_
          rintro e wa ⟨bb, rfl, hbb, hba⟩
          obtain rfl := false_of hbb hne7.out
          go_wp2_with fail
          go_ret
          exact ⟨rfl, belowT HB8.out hba⟩
        · go_simp
          go_wp2_with fail
          go_ret
          exact ⟨rfl, HB8.out⟩
end Go.Proofs.YtidmgckmphcegaaGreatDoor
