import Derived.Test.YtidmgckmphcegaaGreatDoorMB
import Derived.Test.YtidmgckmphcegaaGreatDoorRows
import Derived.Deep.Matrix
import Derived.Test.YtidmgckmphcegaaGreatDoorMC
import Derived.Laws.BytesArg
import Derived.Test.YtidmgckmphcegaaGreatDoorMA
import Derived.Deep.RegionLaw
import Derived.Lib.QuietBelow
/-
 A law's argument that is a frame by value, opened.
-/
namespace Go.Proofs.YtidmgckmphcegaaGreatDoor
open Go.ChangeShapes Go.WideShapes Go.RowKit Go.Joins Go.Deep
set_option linter.unusedVariables false
theorem cells_u8 : Tryz.prog.cellsOf 5 = 1 := by kernel_rfl
theorem cells_u16 : Tryz.prog.cellsOf 22 = 1 := by kernel_rfl
theorem cells_u32 : Tryz.prog.cellsOf 23 = 1 := by kernel_rfl
theorem cells_hd : Tryz.prog.cellsOf 25 = 5 := by kernel_rfl
theorem cells_bs : Tryz.prog.cellsOf 26 = 1 := by kernel_rfl
theorem cells_fr : Tryz.prog.cellsOf 28 = 6 := by kernel_rfl
section
variable {H : Type} {enc : TypeId × Value → H} {w : World} {base : Nat} {spare : Nat → Bool} {held : Bool}
set_option maxRecDepth 100000 in
theorem open_hd5 {n : Nat} {c0 c1 c2 c3 c4 : Value} {y : DataW H × List MemPlace} (hf : DataW.trod enc Tryz.prog w base spare held n 25 [c0, c1, c2, c3, c4] = some y) :
    ∃ ver ty fl st ln, c0 = .int .u8 ver ∧ c1 = .int .u8 ty ∧ c2 = .int .u16 fl ∧ c3 = .int .u32 st ∧ c4 = .int .u32 ln ∧ HdrOk ver ty fl st ln ∧ ∃ ds, y.1 = .agg ds := by
 obtain ⟨xs, m, _, hx, _, hlen, hg⟩ := DataW.trod_struct Tryz.underlying25 hf
 match xs, hlen with
 | [y0, y1, y2, y3, y4], _ =>
   have k0 := hg 0 _ rfl
   have k1 := hg 1 _ rfl
   have k2 := hg 2 _ rfl
   have k3 := hg 3 _ rfl
   have k4 := hg 4 _ rfl
   simp [cells_u8, cells_u16, cells_u32] at k0 k1 k2 k3 k4
   obtain ⟨a, e0, _, wa⟩ := DataW.trod_int Tryz.underlying5 k0
   obtain ⟨b, e1, _, wb⟩ := DataW.trod_int Tryz.underlying5 k1
   obtain ⟨c, e2, _, wc⟩ := DataW.trod_int Tryz.underlying22 k2
   obtain ⟨s, e3, _, ws⟩ := DataW.trod_int Tryz.underlying23 k3
   obtain ⟨l, e4, _, wl⟩ := DataW.trod_int Tryz.underlying23 k4
   simp at e0 e1 e2 e3 e4
   subst e0 e1 e2 e3 e4
   exact ⟨a, b, c, s, l, rfl, rfl, rfl, rfl, rfl, ⟨(bd8 wa).1, (bd8 wa).2, (bd8 wb).1, (bd8 wb).2, (bd16 wc).1, (bd16 wc).2, (bd32 ws).1, (bd32 ws).2, (bd32 wl).1, (bd32 wl).2⟩, _, congrArg (·.1) hx⟩
theorem open_bs {n : Nat} {v : Value} {y : DataW H × List MemPlace} (hf : DataW.trod enc Tryz.prog w base (fun _ => true) held n 26 [v] = some y) :
    ∃ A k c xs, v = .slice A k c ∧ Bs w A k c xs ∧ (y.1 = .nil ∧ k = 0 ∨ ∃ es sp, y.1 = .slice es sp ∧ es.length = k) := by
 rcases open_ints Tryz.underlying26 Tryz.underlying5 (by kernel_rfl) hf with ⟨hcs, hn⟩ | ⟨x, l, c, zs, hcs, _, hl, hm, hz, hx, hcell, hwz⟩
 · obtain rfl := (List.cons.inj hcs).1
   exact ⟨none, 0, 0, [], rfl, ⟨rfl, Nat.le_refl _, by omega, (fun x hx => by cases hx), fun _ => ⟨rfl, rfl⟩, fun h => by omega⟩, .inl ⟨congrArg (·.1) hn, rfl⟩⟩
 · obtain rfl := (List.cons.inj hcs).1
   refine ⟨_, _, _, _, rfl, bytes_of hl hm (by simpa using hz) hcell hwz, .inr ⟨_, _, congrArg (·.1) hx, ?_⟩⟩
   have : l ≤ zs.length := by rw [hz]; split <;> omega
   simp [lits]; omega
set_option maxRecDepth 100000 in
theorem open_frame {b0 : Nat} {r : Reach} {v : Value} {d : DataW H} {p : List MemPlace}
    (hv : Value.okWide Tryz.prog w r b0 28 v) (h : DataW.Trod enc Tryz.prog w base (fun _ => true) held 28 v d p) :
    ∃ ver ty fl st ln A n c xs, v = .agg #[.int .u8 ver, .int .u8 ty, .int .u16 fl, .int .u32 st, .int .u32 ln, .slice A n c] ∧ Bs w A n c xs ∧ HdrOk ver ty fl st ln ∧
      ∃ dh db, d = .agg [dh, db] ∧ (∃ ds, dh = .agg ds) ∧ (db = .nil ∧ n = 0 ∨ ∃ es sp, db = .slice es sp ∧ es.length = n) := by
 obtain ⟨cs, rfl, hsz⟩ := okWide_struct Tryz.underlying28 hv
 obtain ⟨l⟩ := cs
 match l, hsz.trans cells_fr with
 | [c0, c1, c2, c3, c4, c5], _ =>
   obtain ⟨fuel, hf⟩ := h
   obtain ⟨y0, y1, n, hx, _, k0, k1⟩ := trod_struct2 Tryz.underlying28 hf
   simp [Value.cells, cells_hd, cells_bs] at k0 k1
   obtain ⟨ver, ty, fl, st, ln, rfl, rfl, rfl, rfl, rfl, hok, hds⟩ := open_hd5 k0
   obtain ⟨A, k, c, xs, rfl, hB, hdb⟩ := open_bs k1
   exact ⟨ver, ty, fl, st, ln, A, k, c, xs, rfl, hB, hok, y0.1, y1.1, congrArg (·.1) hx, hds, hdb⟩
end
end Go.Proofs.YtidmgckmphcegaaGreatDoor
/-
 A law's arguments that are lists of ints, of byte lists, of frames, opened; what the bulk bounds.
-/
namespace Go.Proofs.YtidmgckmphcegaaGreatDoor
open Go.ChangeShapes Go.WideShapes Go.RowKit Go.Joins Go.Deep
set_option linter.unusedVariables false
/-! The bulk. -/
section
variable {H : Type}
theorem bulk_pos (d : DataW H) : 1 ≤ Rows.uptoBulk d := by
 cases d with
 | lit l => cases l <;> simp [Rows.uptoBulk]
 | _ => simp [Rows.uptoBulk]
theorem bulk_len : ∀ l : List (DataW H), l.length ≤ Rows.uptoBulkAll l
 | [] => by simp
 | d :: r => by
   have h1 := bulk_pos d
   have h2 := bulk_len r
   simp only [Rows.uptoBulkAll, List.length_cons]
   omega
theorem bulk_app : ∀ a b : List (DataW H), Rows.uptoBulkAll (a ++ b) = Rows.uptoBulkAll a + Rows.uptoBulkAll b
 | [], b => by simp [Rows.uptoBulkAll]
 | d :: r, b => by
   have h := bulk_app r b
   simp only [List.cons_append, Rows.uptoBulkAll]
   omega
theorem bulk_at : ∀ (l : List (DataW H)) (j : Nat) (d : DataW H), l[j]? = some d → Rows.uptoBulk d ≤ Rows.uptoBulkAll l
 | [], j, d, h => by simp at h
 | x :: r, 0, d, h => by
   simp only [List.getElem?_cons_zero, Option.some.injEq] at h
   subst h
   simp only [Rows.uptoBulkAll]
   omega
 | x :: r, j + 1, d, h => by
   simp only [List.getElem?_cons_succ] at h
   have := bulk_at r j d h
   simp only [Rows.uptoBulkAll]
   omega
theorem bulk_arg {ds gs : List (DataW H)} {j : Nat} {d : DataW H} (h : Rows.uptoSmall H (ds ++ gs) = true) (hj : ds[j]? = some d) : Rows.uptoBulk d ≤ 1048576 := by
 have h' : Rows.uptoBulkAll (ds ++ gs) ≤ 1048576 := of_decide_eq_true h
 rw [bulk_app] at h'
 have := bulk_at ds j d hj
 omega
theorem bulk_range (n : Nat) (D : Nat → DataW H) (L : Nat → Nat) (h : ∀ i, i < n → L i + 1 ≤ Rows.uptoBulk (D i)) : ((List.range n).map L).sum + n ≤ Rows.uptoBulkAll ((List.range n).map D) := by
 induction n with
 | zero => simp
 | succ n ih =>
   have h1 := ih (fun i hi => h i (by omega))
   have h2 := h n (by omega)
   rw [List.range_succ, List.map_append, List.map_append, bulk_app, List.sum_append]
   simp only [List.map_cons, List.map_nil, List.sum_cons, List.sum_nil, Rows.uptoBulkAll]
   omega
end
theorem addr_zero (a : Addr) : a.add 0 = a := by simp [Addr.add]
theorem addr_plain {w : World} {x : Addr} {v : Value} (h : w.cell? x = some v) : ∃ b o, x = ⟨b, o, none⟩ := by
 obtain ⟨b, o, s⟩ := x
 cases s with
 | none => exact ⟨b, o, rfl⟩
 | some s =>
   unfold World.cell? at h
   cases e : w.heap[b]? with
   | none => simp [e] at h
   | some ob => cases ob <;> simp [e] at h
structure Is (w : World) (A : Option Addr) (n c : Nat) (zs : List Int) : Prop where
 len : zs.length = n
 cap : n ≤ c
 max : c ≤ 9223372036854775807
 rng : ∀ z ∈ zs, -9223372036854775808 ≤ z ∧ z ≤ 9223372036854775807
 rd : 0 < n → ∃ b o, A = some ⟨b, o, none⟩ ∧ ∀ j, j < n → w.cell? ⟨b, o + j, none⟩ = some (.int .i64 (zs.getD j 0))
theorem Is.next {w w' : World} {A : Option Addr} {n c : Nat} {zs : List Int} (h : Is w A n c zs) (hb : Below w.heap.size w w') : Is w' A n c zs :=
 ⟨h.len, h.cap, h.max, h.rng, fun hn => by
  obtain ⟨b, o, e, hr⟩ := h.rd hn
  exact ⟨b, o, e, fun j hj => (hb.cell (World.block_lt_of_cell? w _ (hr j hj))).trans (hr j hj)⟩⟩
theorem Is.rngD {w : World} {A : Option Addr} {n c : Nat} {zs : List Int} (h : Is w A n c zs) (j : Nat) : -9223372036854775808 ≤ zs.getD j 0 ∧ zs.getD j 0 ≤ 9223372036854775807 := by
 rw [List.getD_eq_getElem?_getD]
 cases hj : zs[j]? with
 | none => simp
 | some z => exact h.rng z (List.mem_of_getElem? hj)
structure Pcs (w : World) (A : Option Addr) (n c : Nat) (ps : List (List Int)) : Prop where
 len : ps.length = n
 cap : n ≤ c
 max : c ≤ 9223372036854775807
 rd : 0 < n → ∃ b o, A = some ⟨b, o, none⟩ ∧ ∀ j, j < n → ∃ A' c', w.cell? ⟨b, o + j, none⟩ = some (.slice A' (ps.getD j []).length c') ∧ Bs w A' (ps.getD j []).length c' (ps.getD j [])
theorem Pcs.next {w w' : World} {A : Option Addr} {n c : Nat} {ps : List (List Int)} (h : Pcs w A n c ps) (hb : Below w.heap.size w w') : Pcs w' A n c ps :=
 ⟨h.len, h.cap, h.max, fun hn => by
  obtain ⟨b, o, e, hr⟩ := h.rd hn
  refine ⟨b, o, e, fun j hj => ?_⟩
  obtain ⟨A', c', h1, h2⟩ := hr j hj
  exact ⟨A', c', (hb.cell (World.block_lt_of_cell? w _ h1)).trans h1, h2.next hb⟩⟩
theorem bulk_lits {H : Type} (k : IntKind) (l : List Int) : l.length ≤ Rows.uptoBulkAll (lits k l : List (DataW H)) := by
 have := bulk_len (lits k l : List (DataW H))
 simpa [lits] using this
section
variable {H : Type} {enc : TypeId × Value → H} {w : World} {base : Nat} {held : Bool}
set_option maxRecDepth 100000 in
theorem open_pieces {r : Reach} {b0 : Nat} {v : Value} {d : DataW H} {p : List MemPlace} (hv : Value.okWide Tryz.prog w r b0 53 v) (h : DataW.Trod enc Tryz.prog w base (fun _ => true) held 53 v d p) :
    ∃ A n c ps, v = .slice A n c ∧ Pcs w A n c ps ∧ (ps.map List.length).sum + n ≤ Rows.uptoBulk d := by
 obtain ⟨a, len, cap, rfl⟩ := okWide_slice Tryz.underlying53 hv
 obtain ⟨fuel, hf⟩ := h
 rcases open_int_rows Tryz.underlying53 Tryz.underlying26 Tryz.underlying5 (by kernel_rfl) (by kernel_rfl) hf with ⟨hcs, _⟩ | ⟨x, l, c, A, L, C, Z, hcs, _, hl, hm, hx, hr⟩
 · simp [Value.cells] at hcs
   obtain ⟨rfl, rfl, rfl⟩ := hcs
   exact ⟨none, 0, 0, [], rfl, ⟨rfl, Nat.le_refl _, by omega, fun h => by omega⟩, by simp⟩
 · simp [Value.cells] at hcs
   obtain ⟨rfl, rfl, rfl⟩ := hcs
   have hL : ∀ r, r < len → (Z r).length = C r ∧ L r ≤ C r := fun r h => ⟨(hr r (by omega)).2.2.2.1, (hr r (by omega)).2.1⟩
   have hg : ∀ j, j < len → ((List.range len).map fun r => (Z r).take (L r)).getD j [] = (Z j).take (L j) := fun j hj => by
    rw [List.getD_eq_getElem?_getD]; simp [hj]
   refine ⟨_, _, _, (List.range len).map fun r => (Z r).take (L r), rfl, ⟨by simp, hl, by simpa [maxLen] using hm, fun hn => ?_⟩, ?_⟩
   · obtain ⟨b, o, hx0⟩ : ∃ b o, x = ⟨b, o, none⟩ := by
       have h0 := (hr 0 (by omega)).1
       rw [addr_zero] at h0
       exact addr_plain h0
     subst hx0
     refine ⟨b, o, rfl, fun j hj => ?_⟩
     obtain ⟨e1, e2, e3, e4, e5, e6, e7⟩ := hr j (by omega)
     rw [hg j hj]
     have hlj : ((Z j).take (L j)).length = L j := by rw [List.length_take]; omega
     rw [hlj]
     rw [Addr.add_lit] at e1
     refine ⟨A j, C j, e1, ?_⟩
     cases hA : A j with
     | none =>
       have hc0 := e6 hA
       have hl0 : L j = 0 := by omega
       rw [hl0, hc0]
       exact ⟨by simp, Nat.le_refl _, by omega, fun x hx => (by simp at hx), fun _ => ⟨rfl, rfl⟩, fun h => by omega⟩
     | some a' =>
       have h7 := e7 a' hA
       exact bytes_of e2 e3 e4 (fun i hi => h7.2 i (by omega)) e5
   · have hd : d = .slice ((List.range len).map fun r => intRow .u8 (A r) (L r) (Z r)) ((List.range (cap - len)).map fun j => intRow .u8 (A (len + j)) (L (len + j)) (Z (len + j))) := congrArg (·.1) hx
     subst hd
     have hb := bulk_range (H := H) len (fun r => intRow .u8 (A r) (L r) (Z r)) L (fun r hr' => by
      unfold intRow
      cases hA : A r with
      | none =>
        have := (hr r (by omega)).2.2.2.2.2.1 hA
        have := (hL r hr').2
        simp [Rows.uptoBulk]
        omega
      | some a' =>
        have h1 := bulk_lits (H := H) .u8 ((Z r).take (L r))
        rw [List.length_take] at h1
        have := hL r hr'
        simp only [Rows.uptoBulk]
        omega)
     have hs : ((List.range len).map fun r => (Z r).take (L r)).map List.length = (List.range len).map L := by
      rw [List.map_map]
      refine List.map_congr_left fun r hr' => ?_
      have := hL r (List.mem_range.1 hr')
      simp; omega
     rw [hs]
     simp only [Rows.uptoBulk]
     omega
end
end Go.Proofs.YtidmgckmphcegaaGreatDoor
/-
 A law's argument that is a list of frames, opened; an element of a list of frames that is only read.
-/
namespace Go.Proofs.YtidmgckmphcegaaGreatDoor
open Go.ChangeShapes Go.WideShapes Go.RowKit Go.Joins Go.Deep Go.Proofs.YtidmgckmphcegaaGreatDoorW.PrintWords Go.Proofs.YtidmgckmphcegaaGreatDoor.Px
set_option linter.unusedVariables false
set_option linter.unusedSimpArgs false
section
variable {H : Type} {enc : TypeId × Value → H} {w : World} {base : Nat} {held : Bool}
end
theorem fk_open {W : World} {ok : Nat → Prop} {p : Fr} {cs : List Value} (h : Kd.FK kFr W ok p cs) :
    ∃ A c, cs = [.int .u8 p.f0.f0, .int .u8 p.f0.f1, .int .u16 p.f0.f2, .int .u32 p.f0.f3, .int .u32 p.f0.f4, .slice A p.f1.length c] ∧ p.f1.length ≤ c ∧ Kd.F (Kd.int .u8) W ok A p.f1.length p.f1 := by
 obtain ⟨A, c, rfl, l, _⟩ := k28_open (Kd.FK_now h)
 refine ⟨A, c, rfl, l, fun W' hW => ?_⟩
 obtain ⟨A', c', e, _, hC⟩ := k28_open (h W' hW)
 simp only [List.cons.injEq, Value.slice.injEq, true_and, and_true] at e
 rw [e.1]; exact hC
theorem at_F {w : World} {ok : Nat → Prop} {A : Option Addr} {n : Nat} {xs : List Fr} (h : Kd.F kFr w ok A n xs) (i : Int) (h0 : 0 ≤ i) (h1 : i < n) : ∃ ad A5 c5, A = some ad ∧ w.cell? (ad.add (i.toNat * 6)) = some (.int .u8 (rd_T28 xs i).f0.f0) ∧ w.cell? ⟨(ad.add (i.toNat * 6)).block, (ad.add (i.toNat * 6)).off + 1, none⟩ = some (.int .u8 (rd_T28 xs i).f0.f1) ∧ w.cell? ⟨(ad.add (i.toNat * 6)).block, (ad.add (i.toNat * 6)).off + 2, none⟩ = some (.int .u16 (rd_T28 xs i).f0.f2) ∧ w.cell? ⟨(ad.add (i.toNat * 6)).block, (ad.add (i.toNat * 6)).off + 3, none⟩ = some (.int .u32 (rd_T28 xs i).f0.f3) ∧ w.cell? ⟨(ad.add (i.toNat * 6)).block, (ad.add (i.toNat * 6)).off + 4, none⟩ = some (.int .u32 (rd_T28 xs i).f0.f4) ∧ w.cell? ⟨(ad.add (i.toNat * 6)).block, (ad.add (i.toNat * 6)).off + 5, none⟩ = some (.slice A5 (rd_T28 xs i).f1.length c5) ∧ (rd_T28 xs i).f1.length ≤ c5 ∧ Kd.F (Kd.int .u8) w ok A5 (rd_T28 xs i).f1.length (rd_T28 xs i).f1 := by
 obtain ⟨ad, c, e, _, hK, hc0, _⟩ := Kd.F_get h z28 i h0 h1
 have hc : ∀ j u, c[j]? = some u → w.cell? (ad.add (i.toNat * 6 + j)) = some u := hc0
 obtain ⟨A5, c5, rfl, l5, g5⟩ := fk_open hK
 exact ⟨ad, A5, c5, e, hc 0 _ rfl, by rw [← add_field _ _ 1 (by omega)]; exact hc 1 _ rfl, by rw [← add_field _ _ 2 (by omega)]; exact hc 2 _ rfl, by rw [← add_field _ _ 3 (by omega)]; exact hc 3 _ rfl, by rw [← add_field _ _ 4 (by omega)]; exact hc 4 _ rfl, by rw [← add_field _ _ 5 (by omega)]; exact hc 5 _ rfl, l5, g5⟩
end Go.Proofs.YtidmgckmphcegaaGreatDoor
/-
 culvertref01.SameBytes: two lists of bytes are one.
-/
namespace Go.Proofs.YtidmgckmphcegaaGreatDoor
open Go.RowKit
set_option linter.unusedVariables false
set_option linter.unusedSimpArgs false
theorem str_of {w : World} {A : Option Addr} {n c : Nat} {xs : List Int} (h : Bs w A n c xs) : (convert 26 9 (.slice A n c)).run Tryz.prog w = .ok (.string (strOfNums xs)) w := by
 rcases Nat.eq_zero_or_pos n with h0 | h0
 · subst h0
   have : xs = [] := List.eq_nil_of_length_eq_zero h.len
   subst this
   rw [run_convert_bytes_string w 26 9 5 A 0 c Tryz.underlying26 Tryz.underlying5 Tryz.underlying9]
   cases A <;> rfl
 · obtain ⟨b, o, rfl, hr⟩ := h.rd h0
   exact run_convert_bytes_arg w 26 5 Tryz.underlying26 Tryz.underlying5 b o n c xs h.len hr 9 Tryz.underlying9
end Go.Proofs.YtidmgckmphcegaaGreatDoor
/-
 culvertref01.Bytes.
-/
namespace Go.Proofs.YtidmgckmphcegaaGreatDoor
open Go.RowKit
set_option linter.unusedVariables false
set_option linter.unusedSimpArgs false
set_option maxRecDepth 100000 in
set_option maxHeartbeats 1000000 in
theorem rbytes2 (v : Int) (w : World) (h0 : 0 ≤ v) (h1 : v ≤ 65535) :
    Calls Tryz.prog 125 #[.int .i64 v, .int .i64 2] w fun e w' => ∃ g, e = .returned (.slice (some ⟨g, 0, none⟩) 2 2) ∧ w'.ownsRow w.heap.size 5 1 (.slice (some ⟨g, 0, none⟩) 2 2) 2 (nums .u8 [v / 256, v % 256]) ∧ Below w.heap.size w w' := by
 have hmk : ∀ w : World, (Instr.makeSlice 26 (.int .i64 2) (.int .i64 2)).run Tryz.prog w = .ok (.slice (some ⟨w.heap.size, 0, none⟩) 2 2) (w.alloc (.cells #[.int .u8 0, .int .u8 0] 5)) := fun _ => by kernel_rfl
 go_enter Tryz.func125, Tryz.ntmps125
 go_wp2_with fail
 refine wp_loop_rounds 3 ?_
 rw [rounds_succ]
 go_wp2_with fail
 rw [rounds_succ]
 go_wp2_with fail
 rw [rounds_succ]
 go_wp2_with fail
 go_ret
 refine ⟨_, rfl, own_block (Nat.le_refl _) (alloc_at _ _) ?_ rfl (by unfold maxLen; omega), (Below.refl _ _).alloc (Nat.le_refl _) _⟩
 simp [nums]
 omega
set_option maxRecDepth 100000 in
set_option maxHeartbeats 1000000 in
theorem rbytes4 (v : Int) (w : World) (h0 : 0 ≤ v) (h1 : v ≤ 4294967295) :
    Calls Tryz.prog 125 #[.int .i64 v, .int .i64 4] w fun e w' => ∃ g, e = .returned (.slice (some ⟨g, 0, none⟩) 4 4) ∧ w'.ownsRow w.heap.size 5 1 (.slice (some ⟨g, 0, none⟩) 4 4) 4 (nums .u8 [v / 16777216, v / 65536 % 256, v / 256 % 256, v % 256]) ∧ Below w.heap.size w w' := by
 have hmk : ∀ w : World, (Instr.makeSlice 26 (.int .i64 4) (.int .i64 4)).run Tryz.prog w = .ok (.slice (some ⟨w.heap.size, 0, none⟩) 4 4) (w.alloc (.cells #[.int .u8 0, .int .u8 0, .int .u8 0, .int .u8 0] 5)) := fun _ => by kernel_rfl
 go_enter Tryz.func125, Tryz.ntmps125
 go_wp2_with fail
 refine wp_loop_rounds 5 ?_
 rw [rounds_succ]
 go_wp2_with fail
 rw [rounds_succ]
 go_wp2_with fail
 rw [rounds_succ]
 go_wp2_with fail
 rw [rounds_succ]
 go_wp2_with fail
 rw [rounds_succ]
 go_wp2_with fail
 go_ret
 refine ⟨_, rfl, own_block (Nat.le_refl _) (alloc_at _ _) ?_ rfl (by unfold maxLen; omega), (Below.refl _ _).alloc (Nat.le_refl _) _⟩
 simp [nums]
 omega
end Go.Proofs.YtidmgckmphcegaaGreatDoor
/-
 The reference's Encode.
-/
namespace Go.Proofs.YtidmgckmphcegaaGreatDoor
open Go.RowKit
set_option linter.unusedVariables false
set_option linter.unusedSimpArgs false
theorem row_bs {w : World} {base g : Nat} {n : Nat} {xs : List Int} (h : w.ownsRow base 5 1 (.slice (some ⟨g, 0, none⟩) n n) n (nums .u8 xs)) (hx : ∀ x ∈ xs, 0 ≤ x ∧ x ≤ 255) (hl : xs.length = n) (hn : n ≤ 100) : Bs w (some ⟨g, 0, none⟩) n n xs :=
 ⟨hl, Nat.le_refl _, by omega, hx, (fun e => by cases e), fun h0 => ⟨g, 0, rfl, fun j hj => by
  rw [Nat.zero_add, h.cellAt j (by omega)]
  simp [nums, List.getD_eq_getElem?_getD, List.getElem?_eq_getElem (show j < xs.length by omega)]⟩⟩
set_option maxRecDepth 100000 in
set_option maxHeartbeats 1000000 in
theorem rencode_any (ver ty fl st ln : Int) (w : World) (v0 : 0 ≤ ver) (v255 : ver ≤ 255) (t0 : 0 ≤ ty) (t1 : ty ≤ 255) (f0 : 0 ≤ fl) (f1 : fl ≤ 65535) (s0 : 0 ≤ st) (s1 : st ≤ 4294967295) (l0 : 0 ≤ ln) (l1 : ln ≤ 4294967295) :
    Calls Tryz.prog 101 #[hdr ver ty fl st ln] w fun e w' => ∃ v, e = .returned v ∧ Own w' w.heap.size v (enc ver ty fl st ln) ∧ Below w.heap.size w w' := by
 obtain ⟨w1, hw1⟩ : ∃ w1, w1 = (w.alloc (.cells #[.int .u8 ver, .int .u8 ty, .int .u16 fl, .int .u32 st, .int .u32 ln] 25)).alloc (.cells #[.int .u8 ver, .int .u8 ty] 5) := ⟨_, rfl⟩
 have hH1 : w1.heap[w.heap.size]? = some (.cells #[.int .u8 ver, .int .u8 ty, .int .u16 fl, .int .u32 st, .int .u32 ln] 25 (0, 0)) := by rw [hw1, blk_old _ (by simp), alloc_at]
 have hO1 : Own w1 (w.heap.size + 1) (.slice (some ⟨w.heap.size + 1, 0, none⟩) 2 2) [ver, ty] := by
  have := own_new (w.alloc (.cells #[.int .u8 ver, .int .u8 ty, .int .u16 fl, .int .u32 st, .int .u32 ln] 25)) (w.heap.size + 1) [ver, ty] (by simp) (by simp)
  rw [hw1]
  simpa [nums] using this
 have hB1 : Below w.heap.size w w1 := by rw [hw1]; exact ba_.alloc (by simp) _
 have hZ1 : w.heap.size + 2 ≤ w1.heap.size := by rw [hw1]; simp
 have HH1 := Lib.hid hH1
 have HO1 := Lib.hid hO1
 have HB1 := Lib.hid hB1
 have HE := Lib.hid hw1
 clear hH1 hO1 hB1 hw1
 go_enter Tryz.func101, Tryz.ntmps101
 go_wp2_with fail
 rw [← HE.out]
 clear HE
 refine (rbytes2 fl w1 f0 f1).mono ?_
 rintro e w2 ⟨g1, rfl, ho2, hb2⟩
 have Ho1 := Lib.hid ho2
 have HH2 := Lib.hid ((hb2.block _ (by omega)).trans HH1.out)
 have HO2 := Lib.hid (HO1.out.next hb2)
 have HB2 := Lib.hid (HB1.out.trans (hb2.mono (by omega)))
 have hZ2 : w.heap.size + 2 ≤ w2.heap.size := by have := hb2.size; omega
 clear ho2 hb2
 go_wp2_with (at_builtin; refine wpList_append_bs rfl _ _ rfl (w.heap.size + 1) (.slice (some ⟨w.heap.size + 1, 0, none⟩) 2 2) [ver, ty] rfl HO2.out _ _ _ [fl / 256, fl % 256] rfl (row_bs Ho1.out (by simp; omega) rfl (by omega)) (by simp) (by omega) ?_; intro v3 w3 ho3 hg3 hz3; have HH3 := Lib.hid (grown_blk hg3 (fun e => by have := (HO2.out.lt _ e).1; omega) HH2.out); have HO3 := Lib.hid ho3; have HB3 := Lib.hid (HB2.out.grown hg3 (by omega) (fun k hk => by have := (HO2.out.lt _ hk).1; omega)); have hZ3 : w.heap.size + 2 ≤ w3.heap.size := (by have := hg3.size; omega); have e3 : w3.cell? ⟨w.heap.size, 3, none⟩ = some (.int .u32 st) := cell_blk HH3.out rfl; clear ho3 hg3 hz3)
 refine (rbytes4 st w3 s0 s1).mono ?_
 rintro e w4 ⟨g2, rfl, ho4, hb4⟩
 have Ho3 := Lib.hid ho4
 have HH4 := Lib.hid ((hb4.block _ (by omega)).trans HH3.out)
 have HO4 := Lib.hid (HO3.out.next hb4)
 have HB4 := Lib.hid (HB3.out.trans (hb4.mono (by omega)))
 have hZ4 : w.heap.size + 2 ≤ w4.heap.size := by have := hb4.size; omega
 clear ho4 hb4
 go_wp2_with (at_builtin; refine wpList_append_bs rfl _ _ rfl (w.heap.size + 1) v3 ([ver, ty] ++ [fl / 256, fl % 256]) rfl HO4.out _ _ _ [st / 16777216, st / 65536 % 256, st / 256 % 256, st % 256] rfl (row_bs Ho3.out (by simp; omega) rfl (by omega)) (by simp) (by omega) ?_; intro v5 w5 ho5 hg5 hz5; have HH5 := Lib.hid (grown_blk hg5 (fun e => by have := (HO4.out.lt _ e).1; omega) HH4.out); have HO5 := Lib.hid ho5; have HB5 := Lib.hid (HB4.out.grown hg5 (by omega) (fun k hk => by have := (HO4.out.lt _ hk).1; omega)); have hZ5 : w.heap.size + 2 ≤ w5.heap.size := (by have := hg5.size; omega); have e5 : w5.cell? ⟨w.heap.size, 4, none⟩ = some (.int .u32 ln) := cell_blk HH5.out rfl; clear ho5 hg5 hz5)
 refine (rbytes4 ln w5 l0 l1).mono ?_
 rintro e w6 ⟨g3, rfl, ho6, hb6⟩
 have Ho5 := Lib.hid ho6
 have HH6 := Lib.hid ((hb6.block _ (by omega)).trans HH5.out)
 have HO6 := Lib.hid (HO5.out.next hb6)
 have HB6 := Lib.hid (HB5.out.trans (hb6.mono (by omega)))
 have hZ6 : w.heap.size + 2 ≤ w6.heap.size := by have := hb6.size; omega
 clear ho6 hb6
 go_wp2_with (at_builtin; refine wpList_append_bs rfl _ _ rfl (w.heap.size + 1) v5 ([ver, ty] ++ [fl / 256, fl % 256] ++ [st / 16777216, st / 65536 % 256, st / 256 % 256, st % 256]) rfl HO6.out _ _ _ [ln / 16777216, ln / 65536 % 256, ln / 256 % 256, ln % 256] rfl (row_bs Ho5.out (by simp; omega) rfl (by omega)) (by simp) (by omega) ?_; intro v7 w7 ho7 hg7 hz7; have HH7 := Lib.hid (grown_blk hg7 (fun e => by have := (HO6.out.lt _ e).1; omega) HH6.out); have HO7 := Lib.hid ho7; have HB7 := Lib.hid (HB6.out.grown hg7 (by omega) (fun k hk => by have := (HO6.out.lt _ hk).1; omega)); have hZ7 : w.heap.size + 2 ≤ w7.heap.size := (by have := hg7.size; omega); clear ho7 hg7 hz7)
 go_ret
 refine ⟨v7, rfl, ?_, HB7.out⟩
 have h := HO7.out
 exact ⟨h.1, by rcases h.2 with h | ⟨g, cap, cur, a, b, c⟩; exact .inl h; exact .inr ⟨g, cap, cur, a, by omega, c⟩⟩
end Go.Proofs.YtidmgckmphcegaaGreatDoor
/-
 frame.Bytes and the reference's Bytes.
-/
namespace Go.Proofs.YtidmgckmphcegaaGreatDoor
open Go.RowKit
set_option linter.unusedVariables false
set_option linter.unusedSimpArgs false
abbrev frm (ver ty fl st ln : Int) (A : Option Addr) (n c : Nat) : Value := .agg #[.int .u8 ver, .int .u8 ty, .int .u16 fl, .int .u32 st, .int .u32 ln, .slice A n c]
set_option maxRecDepth 100000 in
set_option maxHeartbeats 1000000 in
theorem fbytes_yes (ver ty fl st ln : Int) (A : Option Addr) (n c : Nat) (xs : List Int) (w : World) (hB : Bs w A n c xs) (f0 : 0 ≤ fl) (f1 : fl ≤ 65535) (s0 : 0 ≤ st) (s1 : st ≤ 4294967295) (l0 : 0 ≤ ln) (l1 : ln ≤ 4294967295) (hne : (n : Int) = szF ty ln) :
    Calls Tryz.prog 25 #[frm ver ty fl st ln A n c] w fun e w' => ∃ v, e = .returned (.tuple #[v, .nilIface]) ∧ Own w' w.heap.size v (enc ver ty fl st ln ++ xs) ∧ Below w.heap.size w w' := by
 obtain ⟨w1, hw1⟩ : ∃ w1, w1 = w.alloc (.cells #[.int .u8 ver, .int .u8 ty, .int .u16 fl, .int .u32 st, .int .u32 ln, .slice A n c] 28) := ⟨_, rfl⟩
 have hx : w1.heap[w.heap.size]? = some (.cells #[.int .u8 ver, .int .u8 ty, .int .u16 fl, .int .u32 st, .int .u32 ln, .slice A n c] 28 (0, 0)) := by rw [hw1, alloc_at]
 have hB1 : Below w.heap.size w w1 := by rw [hw1]; exact (Below.refl _ _).alloc (Nat.le_refl _) _
 have e0 : w1.cell? ⟨w.heap.size, 0, none⟩ = some (.int .u8 ver) := cell_blk hx rfl
 have e1 : w1.cell? ⟨w.heap.size, 1, none⟩ = some (.int .u8 ty) := cell_blk hx rfl
 have e2 : w1.cell? ⟨w.heap.size, 2, none⟩ = some (.int .u16 fl) := cell_blk hx rfl
 have e3 : w1.cell? ⟨w.heap.size, 3, none⟩ = some (.int .u32 st) := cell_blk hx rfl
 have e4 : w1.cell? ⟨w.heap.size, 4, none⟩ = some (.int .u32 ln) := cell_blk hx rfl
 have e5 : w1.cell? ⟨w.heap.size, 5, none⟩ = some (.slice A n c) := cell_blk hx rfl
 have k0 := cell_regrown e0
 have k1 := cell_regrown e1
 have k2 := cell_regrown e2
 have k3 := cell_regrown e3
 have k4 := cell_regrown e4
 have k5 := cell_regrown e5
 have cS : ∀ d os, Calls Tryz.prog 47 #[hdr ver ty fl st ln] (Go.Sort.grow (redrawn w1 d) os) fun e w'' => e = .returned (.int .i64 (szF ty ln)) ∧ ∃ p : Regrown, w'' = Go.Sort.grow (redrawn w1 p.d) p.os := fun d os => Calls.regrown_of (size_any ver ty fl st ln _ l0 l1)
 have HE := Lib.hid hw1
 have HX := Lib.hid hx
 have HB1 := Lib.hid hB1
 clear hw1 hx hB1
 go_enter Tryz.func25, Tryz.ntmps25
 go_wp2_with fail
 rw [← HE.out]
 refine wp_region_quiet_below (by kernel_rfl) (by kernel_rfl) ?_
 repeat (quiet_step (with_reducible exact cS _ _))
 refine wpQuiet_nil ?_
 intro _ hw'
 obtain ⟨⟨dq, osq⟩, hw''⟩ := hw'
 have hb12 : Below w1.heap.size w1 (Go.Sort.grow (redrawn w1 dq) osq) := below_regrown w1 dq osq
 rw [← hw''] at hb12
 clear hw'' cS k0 k1 k2 k3 k4 k5 e0 e1 e2 e3 e4 e5
 rename World => w2
 have HX2 := Lib.hid ((hb12.block _ (Array.getElem?_eq_some_iff.1 HX.out).1).trans HX.out)
 have HB2 := Lib.hid (HB1.out.trans (hb12.mono HB1.out.size))
 clear hb12 HX
 have hd : ((n : Int) != szF ty ln) = false := by simp [hne]
 have e0 : w2.cell? ⟨w.heap.size, 0, none⟩ = some (.int .u8 ver) := cell_blk HX2.out rfl
 have e1 : w2.cell? ⟨w.heap.size, 1, none⟩ = some (.int .u8 ty) := cell_blk HX2.out rfl
 have e2 : w2.cell? ⟨w.heap.size, 2, none⟩ = some (.int .u16 fl) := cell_blk HX2.out rfl
 have e3 : w2.cell? ⟨w.heap.size, 3, none⟩ = some (.int .u32 st) := cell_blk HX2.out rfl
 have e4 : w2.cell? ⟨w.heap.size, 4, none⟩ = some (.int .u32 ln) := cell_blk HX2.out rfl
 have e5 : w2.cell? ⟨w.heap.size, 5, none⟩ = some (.slice A n c) := cell_blk HX2.out rfl
 have hnl : n ≤ 4294967295 := by unfold szF at hne; split at hne <;> omega
 have HBs := Lib.hid hB
 have hszB := HB2.out.size
 have hcE : ∀ W, Calls Tryz.prog 66 #[hdr ver ty fl st ln] W _ := fun W => encode_any ver ty fl st ln W f0 f1 s0 s1 l0 l1
 clear hB
 go_wp2_with fail
 go_region_law (first
  | (go_simp; go_at_call 66; refine (hcE _).mono ?_; rintro e w3 ⟨g3, rfl, ho3, hb3⟩; have HO3 : Hid (Own w3 w2.heap.size (.slice (some ⟨g3, 0, none⟩) 12 12) (enc ver ty fl st ln)) := ho3; have HB23 := Lib.hid ((Below.refl w2.heap.size w2).drew.trans hb3); have hz3 := hb3.size; have d5 : w3.cell? ⟨w.heap.size, 5, none⟩ = some (.slice A n c) := cell_blk ((HB23.out.block _ (Array.getElem?_eq_some_iff.1 HX2.out).1).trans HX2.out) rfl; have HBs3 := Lib.hid ((HBs.out.next (HB2.out)).next HB23.out); clear ho3 hb3)
  | (refine step_append_bs rfl (.tmp 14) (.tmp 16) rfl w2.heap.size (.slice (some ⟨g3, 0, none⟩) 12 12) (enc ver ty fl st ln) (by simp [Act.eval, Act.put]) HO3.out A n c xs (by simp [Act.eval, Act.put]) HBs3.out (by simp [enc]; omega) (by simpa using hz3) ?_; intro v4 w4 ho4 hg4 hz4; have HO4 := Lib.hid ho4; have HB4 := Lib.hid (HB23.out.grown hg4 (by simpa using hz3) (fun k hk => (HO3.out.lt k hk).1)); clear ho4 hg4 hz4))
 all_goals
  go_wp2_with fail
  go_ret2
  exact ⟨v4, rfl, ⟨HO4.out.1, by rcases HO4.out.2 with h | ⟨g, cap, cur, a, b, c⟩; exact .inl h; exact .inr ⟨g, cap, cur, a, by omega, c⟩⟩, HB2.out.trans (HB4.out.mono hszB)⟩
end Go.Proofs.YtidmgckmphcegaaGreatDoor
