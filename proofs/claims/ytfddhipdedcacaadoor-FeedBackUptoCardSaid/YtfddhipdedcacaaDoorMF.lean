import Derived.Test.YtfddhipdedcacaaDoorME
import Derived.Test.YtfddhipdedcacaaDoorMD
import Derived.Test.YtfddhipdedcacaaDoorMC
import Derived.Test.YtfddhipdedcacaaDoorMB
/-
  frame.Bytes of a frame whose length does not fit.
-/
namespace Go.Proofs.YtfddhipdedcacaaDoor
open Go.RowKit
set_option linter.unusedVariables false
set_option linter.unusedSimpArgs false
set_option maxRecDepth 100000 in
set_option maxHeartbeats 1000000 in
theorem fbytesC_no {sa : Nat → Addr} (ver ty fl st ln : Int) (A : Option Addr) (n c : Nat) (w : World) (hG : Good w sa) (f0 : 0 ≤ fl) (f1 : fl ≤ 65535) (s0 : 0 ≤ st) (s1 : st ≤ 4294967295) (l0 : 0 ≤ ln) (l1 : ln ≤ 4294967295) (hne : ¬ (n : Int) = szF ty ln) :
    Calls Tryd.prog 27 #[frm ver ty fl st ln A n c] w fun e w' => e = .returned (.tuple #[.slice none 0 0, sv (sa 15)]) ∧ Below w.heap.size w w' := by
  obtain ⟨w1, hw1⟩ : ∃ w1, w1 = w.alloc (.cells #[.int .u8 ver, .int .u8 ty, .int .u16 fl, .int .u32 st, .int .u32 ln, .slice A n c] 45) := ⟨_, rfl⟩
  have hx : w1.heap[w.heap.size]? = some (.cells #[.int .u8 ver, .int .u8 ty, .int .u16 fl, .int .u32 st, .int .u32 ln, .slice A n c] 45 (0, 0)) := by rw [hw1, alloc_at]
  have hB1 : Below w.heap.size w w1 := by rw [hw1]; exact (Below.refl _ _).alloc (Nat.le_refl _) _
  have e0 : w1.cell? ⟨w.heap.size, 0, none⟩ = some (.int .u8 ver) := cell_blk hx rfl
  have e1 : w1.cell? ⟨w.heap.size, 1, none⟩ = some (.int .u8 ty) := cell_blk hx rfl
  have e2 : w1.cell? ⟨w.heap.size, 2, none⟩ = some (.int .u16 fl) := cell_blk hx rfl
  have e3 : w1.cell? ⟨w.heap.size, 3, none⟩ = some (.int .u32 st) := cell_blk hx rfl
  have e4 : w1.cell? ⟨w.heap.size, 4, none⟩ = some (.int .u32 ln) := cell_blk hx rfl
  have e5 : w1.cell? ⟨w.heap.size, 5, none⟩ = some (.slice A n c) := cell_blk hx rfl
  have k0 := cell_regrown e0
  have k1 := cell_regrown e1
  have k2 := cell_regrown e2
  have k3 := cell_regrown e3
  have k4 := cell_regrown e4
  have k5 := cell_regrown e5
  have cS : ∀ d os, Calls Tryd.prog 43 #[hdr ver ty fl st ln] (Go.Sort.grow (redrawn w1 d) os) fun e w'' => e = .returned (.int .i64 (szF ty ln)) ∧ ∃ p : Regrown, w'' = Go.Sort.grow (redrawn w1 p.d) p.os := fun d os => Calls.regrown_of (size_any ver ty fl st ln _ l0 l1)
  have HE := Lib.hid hw1
  have HX := Lib.hid hx
  have HB1 := Lib.hid hB1
  clear hw1 hx hB1
  go_enter Tryd.func27, Tryd.ntmps27
  go_wp2_with fail
  rw [← HE.out]
  refine wp_region_quiet_below (by kernel_rfl) (by kernel_rfl) ?_
  repeat (quiet_step (with_reducible exact cS _ _))
  refine wpQuiet_nil ?_
  intro _ hw'
  obtain ⟨⟨dq, osq⟩, hw''⟩ := hw'
  have hb12 : Below w1.heap.size w1 (Go.Sort.grow (redrawn w1 dq) osq) := below_regrown w1 dq osq
  rw [← hw''] at hb12
  clear hw'' cS k0 k1 k2 k3 k4 k5 e0 e1 e2 e3 e4 e5
  rename World => w2
  have HX2 := Lib.hid ((hb12.block _ (Array.getElem?_eq_some_iff.1 HX.out).1).trans HX.out)
  have HB2 := Lib.hid (HB1.out.trans (hb12.mono HB1.out.size))
  clear hb12 HX
  have hG2 := Lib.hid (hG.below HB2.out)
  clear hG
  have hd : ((n : Int) != szF ty ln) = true := by simp [hne]
  have g15 := (hG2.out.at_ 15 (by omega) (by omega)).glob
  simp only [sgb] at g15
  go_wp2_with fail
  go_region
  all_goals
    go_wp2_with fail
    go_ret2
    exact ⟨rfl, HB2.out.drew⟩
end Go.Proofs.YtfddhipdedcacaaDoor
/-
  A law's argument that is a list of frames, opened; an element of a list of frames that is only read.
-/
namespace Go.Proofs.YtfddhipdedcacaaDoor
open Go.ChangeShapes Go.WideShapes Go.RowKit Go.Joins Go.Deep Go.Proofs.YtfddhipdedcacaaDoorW.PrintWords Go.Proofs.YtfddhipdedcacaaDoor.PFeedPieces
set_option linter.unusedVariables false
set_option linter.unusedSimpArgs false
/-- A frame's numbers are in their kinds' bounds. -/
structure FrIn (p : Fr) : Prop where
  hd : HdIn p.f0.f0 p.f0.f1 p.f0.f2 p.f0.f3 p.f0.f4
  byt : ∀ x ∈ p.f1, 0 ≤ x ∧ x ≤ 255
section
variable {H : Type} {enc : TypeId × Value → H} {w : World} {base : Nat} {held : Bool}
set_option maxRecDepth 100000 in
theorem open_fr {n : Nat} {cs : List Value} {y : DataW H × List MemPlace} (hl : cs.length = 6) (hf : DataW.trod enc Tryd.prog w base (fun _ => true) held n 45 cs = some y) :
    ∃ p : Fr, FrIn p ∧ kFr.K w p cs ∧ p.f1.length + 1 ≤ Rows.uptoBulk y.1 := by
  match cs, hl with
  | [c0, c1, c2, c3, c4, c5], _ =>
    obtain ⟨y0, y1, n, hx, _, k0, k1⟩ := trod_struct2 Tryd.underlying45 hf
    simp [cells_hd, cells_bs] at k0 k1
    obtain ⟨ver, ty, fl, st, ln, rfl, rfl, rfl, rfl, rfl, hok, hds⟩ := open_hd5 k0
    obtain ⟨A, k, c, xs, rfl, hB, hdb⟩ := open_bsU k1
    obtain rfl := hB.len
    refine ⟨⟨⟨ver, ty, fl, st, ln⟩, xs⟩, ⟨⟨hok.ver0, hok.ver1, hok.ty0, hok.ty1, hok.fl0, hok.fl1, hok.st0, hok.st1, hok.ln0, hok.ln1⟩, hB.byt⟩, k45_mk w ⟨⟨ver, ty, fl, st, ln⟩, xs⟩ hB.cap hB.C, ?_⟩
    have hd : y.1 = .agg [y0.1, y1.1] := congrArg (·.1) hx
    rw [hd]
    simp only [Rows.uptoBulk, Rows.uptoBulkAll]
    show xs.length + 1 ≤ _
    omega
set_option maxRecDepth 100000 in
theorem open_frames {r : Reach} {b0 : Nat} {v : Value} {d : DataW H} {p : List MemPlace} (hv : Value.okWide Tryd.prog w r b0 56 v) (h : DataW.Trod enc Tryd.prog w base (fun _ => true) held 56 v d p) :
    ∃ A n c fs, v = .slice A n c ∧ kFr.C w A n fs ∧ (∀ q ∈ fs, FrIn q) ∧ (fs.map fun q => q.f1.length).sum + n ≤ Rows.uptoBulk d := by
  obtain ⟨a, len, cap, rfl⟩ := okWide_slice Tryd.underlying56 hv
  obtain ⟨fuel, hf⟩ := h
  rcases Deep.open_slice Tryd.underlying56 hf with ⟨hcs, _⟩ | ⟨x, l, c, m, n, D, Pl, hcs, _, hl, hm, hmm, hx, hr⟩
  · simp [Value.cells] at hcs
    obtain ⟨rfl, rfl, rfl⟩ := hcs
    exact ⟨none, 0, 0, [], rfl, Kd.C_nil _ _, (fun q hq => by cases hq), by simp⟩
  · simp [Value.cells] at hcs
    obtain ⟨rfl, rfl, rfl⟩ := hcs
    simp only [if_true] at hmm
    have each : ∀ i, i < len → ∃ q : Fr, FrIn q ∧ q.f1.length + 1 ≤ Rows.uptoBulk (D i) ∧ ∃ cs, cs.length = 6 ∧ kFr.K w q cs ∧ ∀ j u, cs[j]? = some u → w.cell? (x.add (i * 6 + j)) = some u := fun i hi => by
      obtain ⟨cs, h1, h2⟩ := hr i (by omega)
      rw [cells_fr] at h1
      obtain ⟨_, h3, h4⟩ := World.cells?_some h1
      obtain ⟨q, q1, q2, q3⟩ := open_fr h3 h2
      refine ⟨q, q1, q3, cs, h3, q2, fun j u hu => ?_⟩
      have hj : j < 6 := by have := (List.getElem?_eq_some_iff.1 hu).1; omega
      rw [← Deep.add_add, h4 j hj, hu]
    haveI : Inhabited Fr := ⟨z45⟩
    obtain ⟨F, hF⟩ := Deep.choose_lt each
    have hg : ∀ j q, ((List.range len).map F)[j]? = some q → j < len ∧ q = F j := fun j q hq => by
      simp only [List.getElem?_map] at hq
      obtain ⟨i, hi, rfl⟩ := Option.map_eq_some_iff.1 hq
      obtain ⟨hi1, hi2⟩ := List.getElem?_eq_some_iff.1 hi
      simp at hi1 hi2
      exact ⟨hi1, by rw [← hi2]⟩
    refine ⟨some x, len, cap, (List.range len).map F, rfl, ⟨by simp, by unfold maxLen at hm; omega, fun _ => ⟨x, rfl, fun j q hq => ?_⟩⟩, fun q hq => ?_, ?_⟩
    · obtain ⟨hj, rfl⟩ := hg j q hq
      obtain ⟨_, _, cs, c1, c2, c3⟩ := hF j hj
      exact ⟨cs, c1, c2, c3⟩
    · obtain ⟨i, hi, rfl⟩ := List.mem_map.1 hq
      exact (hF i (List.mem_range.1 hi)).1
    · have hb := bulk_range (H := H) len D (fun i => (F i).f1.length) (fun i hi => (hF i hi).2.1)
      rw [List.map_map]
      have hd : d = .slice ((List.range len).map D) ((List.range (m - len)).map fun j => D (len + j)) := congrArg (·.1) hx
      subst hd
      simp only [Rows.uptoBulk]
      have he : ((List.range len).map ((fun q : Fr => q.f1.length) ∘ F)) = (List.range len).map fun i => (F i).f1.length := rfl
      rw [he]
      omega
end
theorem heap_fr : Kd.Heap kFr := Kd.heap_iso _ (Kd.heap_pair (Kd.heap_iso _ (Kd.heap_pair (Kd.heap_int .u8) (Kd.heap_pair (Kd.heap_int .u8) (Kd.heap_pair (Kd.heap_int .u16) (Kd.heap_pair (Kd.heap_int .u32) (Kd.heap_int .u32)))))) (Kd.heap_slice 5 (Kd.heap_int .u8)))
/-- An element's cells, and its payload. -/
theorem fk_open {W : World} {ok : Nat → Prop} {p : Fr} {cs : List Value} (h : Kd.FK kFr W ok p cs) :
    ∃ A c, cs = [.int .u8 p.f0.f0, .int .u8 p.f0.f1, .int .u16 p.f0.f2, .int .u32 p.f0.f3, .int .u32 p.f0.f4, .slice A p.f1.length c] ∧ p.f1.length ≤ c ∧ Kd.F (Kd.int .u8) W ok A p.f1.length p.f1 := by
  obtain ⟨A, c, rfl, l, _⟩ := k45_open (Kd.FK_now h)
  refine ⟨A, c, rfl, l, fun W' hW => ?_⟩
  obtain ⟨A', c', e, _, hC⟩ := k45_open (h W' hW)
  simp only [List.cons.injEq, Value.slice.injEq, true_and, and_true] at e
  rw [e.1]; exact hC
theorem at_F {w : World} {ok : Nat → Prop} {A : Option Addr} {n : Nat} {xs : List Fr} (h : Kd.F kFr w ok A n xs) (i : Int) (h0 : 0 ≤ i) (h1 : i < n) : ∃ ad A5 c5, A = some ad ∧ w.cell? (ad.add (i.toNat * 6)) = some (.int .u8 (rd_T45 xs i).f0.f0) ∧ w.cell? ⟨(ad.add (i.toNat * 6)).block, (ad.add (i.toNat * 6)).off + 1, none⟩ = some (.int .u8 (rd_T45 xs i).f0.f1) ∧ w.cell? ⟨(ad.add (i.toNat * 6)).block, (ad.add (i.toNat * 6)).off + 2, none⟩ = some (.int .u16 (rd_T45 xs i).f0.f2) ∧ w.cell? ⟨(ad.add (i.toNat * 6)).block, (ad.add (i.toNat * 6)).off + 3, none⟩ = some (.int .u32 (rd_T45 xs i).f0.f3) ∧ w.cell? ⟨(ad.add (i.toNat * 6)).block, (ad.add (i.toNat * 6)).off + 4, none⟩ = some (.int .u32 (rd_T45 xs i).f0.f4) ∧ w.cell? ⟨(ad.add (i.toNat * 6)).block, (ad.add (i.toNat * 6)).off + 5, none⟩ = some (.slice A5 (rd_T45 xs i).f1.length c5) ∧ (rd_T45 xs i).f1.length ≤ c5 ∧ Kd.F (Kd.int .u8) w ok A5 (rd_T45 xs i).f1.length (rd_T45 xs i).f1 := by
  obtain ⟨ad, c, e, _, hK, hc0, _⟩ := Kd.F_get h z45 i h0 h1
  have hc : ∀ j u, c[j]? = some u → w.cell? (ad.add (i.toNat * 6 + j)) = some u := hc0
  obtain ⟨A5, c5, rfl, l5, g5⟩ := fk_open hK
  exact ⟨ad, A5, c5, e, hc 0 _ rfl, by rw [← add_field _ _ 1 (by omega)]; exact hc 1 _ rfl, by rw [← add_field _ _ 2 (by omega)]; exact hc 2 _ rfl, by rw [← add_field _ _ 3 (by omega)]; exact hc 3 _ rfl, by rw [← add_field _ _ 4 (by omega)]; exact hc 4 _ rfl, by rw [← add_field _ _ 5 (by omega)]; exact hc 5 _ rfl, l5, g5⟩
end Go.Proofs.YtfddhipdedcacaaDoor
