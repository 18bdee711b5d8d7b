import Derived.Test.YtfddhipdedcacaaDoorMB
import Derived.Test.YtfddhipdedcacaaDoorRows
import Derived.Deep.Matrix
import Derived.Test.YtfddhipdedcacaaDoorMA
import Derived.Deep.RegionLaw
import Derived.Lib.QuietBelow
import Derived.Laws.BytesArg
import Derived.ArgAppend
import Derived.Deep.LoopGhost
import Derived.WalkMore
import Derived.WalkSmall
import Derived.Deep.OwnRows
/-
  A law's argument that is a frame by value, opened.
-/
namespace Go.Proofs.YtfddhipdedcacaaDoor
open Go.ChangeShapes Go.WideShapes Go.RowKit Go.Joins Go.Deep
set_option linter.unusedVariables false
theorem cells_u8 : Tryd.prog.cellsOf 5 = 1 := by kernel_rfl
theorem cells_u16 : Tryd.prog.cellsOf 23 = 1 := by kernel_rfl
theorem cells_u32 : Tryd.prog.cellsOf 24 = 1 := by kernel_rfl
theorem cells_hd : Tryd.prog.cellsOf 26 = 5 := by kernel_rfl
theorem cells_bs : Tryd.prog.cellsOf 38 = 1 := by kernel_rfl
theorem cells_fr : Tryd.prog.cellsOf 45 = 6 := by kernel_rfl
section
variable {H : Type} {enc : TypeId × Value → H} {w : World} {base : Nat} {spare : Nat → Bool} {held : Bool}
set_option maxRecDepth 100000 in
/-- A header's five cells. -/
theorem open_hd5 {n : Nat} {c0 c1 c2 c3 c4 : Value} {y : DataW H × List MemPlace} (hf : DataW.trod enc Tryd.prog w base spare held n 26 [c0, c1, c2, c3, c4] = some y) :
    ∃ ver ty fl st ln, c0 = .int .u8 ver ∧ c1 = .int .u8 ty ∧ c2 = .int .u16 fl ∧ c3 = .int .u32 st ∧ c4 = .int .u32 ln ∧ HdrOk ver ty fl st ln ∧ ∃ ds, y.1 = .agg ds := by
  obtain ⟨xs, m, _, hx, _, hlen, hg⟩ := DataW.trod_struct Tryd.underlying26 hf
  match xs, hlen with
  | [y0, y1, y2, y3, y4], _ =>
    have k0 := hg 0 _ rfl
    have k1 := hg 1 _ rfl
    have k2 := hg 2 _ rfl
    have k3 := hg 3 _ rfl
    have k4 := hg 4 _ rfl
    simp [cells_u8, cells_u16, cells_u32] at k0 k1 k2 k3 k4
    obtain ⟨a, e0, _, wa⟩ := DataW.trod_int Tryd.underlying5 k0
    obtain ⟨b, e1, _, wb⟩ := DataW.trod_int Tryd.underlying5 k1
    obtain ⟨c, e2, _, wc⟩ := DataW.trod_int Tryd.underlying23 k2
    obtain ⟨s, e3, _, ws⟩ := DataW.trod_int Tryd.underlying24 k3
    obtain ⟨l, e4, _, wl⟩ := DataW.trod_int Tryd.underlying24 k4
    simp at e0 e1 e2 e3 e4
    subst e0 e1 e2 e3 e4
    exact ⟨a, b, c, s, l, rfl, rfl, rfl, rfl, rfl, ⟨(bd8 wa).1, (bd8 wa).2, (bd8 wb).1, (bd8 wb).2, (bd16 wc).1, (bd16 wc).2, (bd32 ws).1, (bd32 ws).2, (bd32 wl).1, (bd32 wl).2⟩, _, congrArg (·.1) hx⟩
/-- A slice's cell of bytes. -/
theorem open_bs {n : Nat} {v : Value} {y : DataW H × List MemPlace} (hf : DataW.trod enc Tryd.prog w base (fun _ => true) held n 38 [v] = some y) :
    ∃ A k c xs, v = .slice A k c ∧ Bs w A k c xs ∧ (y.1 = .nil ∧ k = 0 ∨ ∃ es sp, y.1 = .slice es sp ∧ es.length = k) := by
  rcases open_ints Tryd.underlying38 Tryd.underlying5 (by kernel_rfl) hf with ⟨hcs, hn⟩ | ⟨x, l, c, zs, hcs, _, hl, hm, hz, hx, hcell, hwz⟩
  · obtain rfl := (List.cons.inj hcs).1
    exact ⟨none, 0, 0, [], rfl, ⟨rfl, Nat.le_refl _, by omega, (fun x hx => by cases hx), fun _ => ⟨rfl, rfl⟩, fun h => by omega⟩, .inl ⟨congrArg (·.1) hn, rfl⟩⟩
  · obtain rfl := (List.cons.inj hcs).1
    refine ⟨_, _, _, _, rfl, bytes_of hl hm (by simpa using hz) hcell hwz, .inr ⟨_, _, congrArg (·.1) hx, ?_⟩⟩
    have : l ≤ zs.length := by rw [hz]; split <;> omega
    simp [lits]; omega
set_option maxRecDepth 100000 in
theorem open_frame {b0 : Nat} {r : Reach} {v : Value} {d : DataW H} {p : List MemPlace}
    (hv : Value.okWide Tryd.prog w r b0 45 v) (h : DataW.Trod enc Tryd.prog w base (fun _ => true) held 45 v d p) :
    ∃ ver ty fl st ln A n c xs, v = .agg #[.int .u8 ver, .int .u8 ty, .int .u16 fl, .int .u32 st, .int .u32 ln, .slice A n c] ∧ Bs w A n c xs ∧ HdrOk ver ty fl st ln ∧
      ∃ dh db, d = .agg [dh, db] ∧ (∃ ds, dh = .agg ds) ∧ (db = .nil ∧ n = 0 ∨ ∃ es sp, db = .slice es sp ∧ es.length = n) := by
  obtain ⟨cs, rfl, hsz⟩ := okWide_struct Tryd.underlying45 hv
  obtain ⟨l⟩ := cs
  match l, hsz.trans cells_fr with
  | [c0, c1, c2, c3, c4, c5], _ =>
    obtain ⟨fuel, hf⟩ := h
    obtain ⟨y0, y1, n, hx, _, k0, k1⟩ := trod_struct2 Tryd.underlying45 hf
    simp [Value.cells, cells_hd, cells_bs] at k0 k1
    obtain ⟨ver, ty, fl, st, ln, rfl, rfl, rfl, rfl, rfl, hok, hds⟩ := open_hd5 k0
    obtain ⟨A, k, c, xs, rfl, hB, hdb⟩ := open_bs k1
    exact ⟨ver, ty, fl, st, ln, A, k, c, xs, rfl, hB, hok, y0.1, y1.1, congrArg (·.1) hx, hds, hdb⟩
end
/-- The payload's length is within what a reading may take. -/
theorem sized_frame {H : Type} {ts : List TypeId} {ds : List (DataW H)} {j n : Nat} {dh db : DataW H}
    (hsz : (DataW.weightsEach Tryd.prog ts ds).all (· ≤ reachBytes) = true) (ht : ts[j]? = some 45) (hd : ds[j]? = some (.agg [dh, db])) (h : db = .nil ∧ n = 0 ∨ ∃ es sp, db = .slice es sp ∧ es.length = n) : n ≤ 140737488351232 := by
  rcases h with ⟨_, rfl⟩ | ⟨es, sp, rfl, rfl⟩
  · omega
  · have hs : (DataW.weightsEach Tryd.prog [26, 38] [dh, .slice es sp]).all (· ≤ reachBytes) = true := by
      refine List.all_eq_true.2 fun x hx => List.all_eq_true.1 hsz x (DataW.weights_mem_each ht hd x ?_)
      rw [DataW.weights, Tryd.underlying45]
      exact hx
    have z := sized_slice hs (j := 1) rfl rfl Tryd.underlying38
    have hb : Tryd.prog.bytesOf 5 = 1 := by kernel_rfl
    rw [hb] at z
    simp only [reachBytes] at z
    omega
end Go.Proofs.YtfddhipdedcacaaDoor
/-
  A law's arguments that are lists of ints, of byte lists, of frames, opened; what the bulk bounds.
-/
namespace Go.Proofs.YtfddhipdedcacaaDoor
open Go.ChangeShapes Go.WideShapes Go.RowKit Go.Joins Go.Deep
set_option linter.unusedVariables false
/-! The bulk. -/
section
variable {H : Type}
theorem bulk_pos (d : DataW H) : 1 ≤ Rows.uptoBulk d := by
  cases d with
  | lit l => cases l <;> simp [Rows.uptoBulk]
  | _ => simp [Rows.uptoBulk]
theorem bulk_len : ∀ l : List (DataW H), l.length ≤ Rows.uptoBulkAll l
  | [] => by simp
  | d :: r => by
    have h1 := bulk_pos d
    have h2 := bulk_len r
    simp only [Rows.uptoBulkAll, List.length_cons]
    omega
theorem bulk_app : ∀ a b : List (DataW H), Rows.uptoBulkAll (a ++ b) = Rows.uptoBulkAll a + Rows.uptoBulkAll b
  | [], b => by simp [Rows.uptoBulkAll]
  | d :: r, b => by
    have h := bulk_app r b
    simp only [List.cons_append, Rows.uptoBulkAll]
    omega
theorem bulk_at : ∀ (l : List (DataW H)) (j : Nat) (d : DataW H), l[j]? = some d → Rows.uptoBulk d ≤ Rows.uptoBulkAll l
  | [], j, d, h => by simp at h
  | x :: r, 0, d, h => by
    simp only [List.getElem?_cons_zero, Option.some.injEq] at h
    subst h
    simp only [Rows.uptoBulkAll]
    omega
  | x :: r, j + 1, d, h => by
    simp only [List.getElem?_cons_succ] at h
    have := bulk_at r j d h
    simp only [Rows.uptoBulkAll]
    omega
/-- What a condition of bulk says of the argument at j. -/
theorem bulk_arg {ds gs : List (DataW H)} {j : Nat} {d : DataW H} (h : Rows.uptoSmall H (ds ++ gs) = true) (hj : ds[j]? = some d) : Rows.uptoBulk d ≤ 1048576 := by
  have h' : Rows.uptoBulkAll (ds ++ gs) ≤ 1048576 := of_decide_eq_true h
  rw [bulk_app] at h'
  have := bulk_at ds j d hj
  omega
/-- The sum of what stands at each index. -/
theorem bulk_range (n : Nat) (D : Nat → DataW H) (L : Nat → Nat) (h : ∀ i, i < n → L i + 1 ≤ Rows.uptoBulk (D i)) : ((List.range n).map L).sum + n ≤ Rows.uptoBulkAll ((List.range n).map D) := by
  induction n with
  | zero => simp
  | succ n ih =>
    have h1 := ih (fun i hi => h i (by omega))
    have h2 := h n (by omega)
    rw [List.range_succ, List.map_append, List.map_append, bulk_app, List.sum_append]
    simp only [List.map_cons, List.map_nil, List.sum_cons, List.sum_nil, Rows.uptoBulkAll]
    omega
end
theorem addr_zero (a : Addr) : a.add 0 = a := by simp [Addr.add]
theorem addr_plain {w : World} {x : Addr} {v : Value} (h : w.cell? x = some v) : ∃ b o, x = ⟨b, o, none⟩ := by
  obtain ⟨b, o, s⟩ := x
  cases s with
  | none => exact ⟨b, o, rfl⟩
  | some s =>
    unfold World.cell? at h
    cases e : w.heap[b]? with
    | none => simp [e] at h
    | some ob => cases ob <;> simp [e] at h
/-- A list of ints that lies in memory. -/
structure Is (w : World) (A : Option Addr) (n c : Nat) (zs : List Int) : Prop where
  len : zs.length = n
  cap : n ≤ c
  max : c ≤ 9223372036854775807
  rng : ∀ z ∈ zs, -9223372036854775808 ≤ z ∧ z ≤ 9223372036854775807
  rd : 0 < n → ∃ b o, A = some ⟨b, o, none⟩ ∧ ∀ j, j < n → w.cell? ⟨b, o + j, none⟩ = some (.int .i64 (zs.getD j 0))
theorem Is.next {w w' : World} {A : Option Addr} {n c : Nat} {zs : List Int} (h : Is w A n c zs) (hb : Below w.heap.size w w') : Is w' A n c zs :=
  ⟨h.len, h.cap, h.max, h.rng, fun hn => by
    obtain ⟨b, o, e, hr⟩ := h.rd hn
    exact ⟨b, o, e, fun j hj => (hb.cell (World.block_lt_of_cell? w _ (hr j hj))).trans (hr j hj)⟩⟩
theorem Is.rngD {w : World} {A : Option Addr} {n c : Nat} {zs : List Int} (h : Is w A n c zs) (j : Nat) : -9223372036854775808 ≤ zs.getD j 0 ∧ zs.getD j 0 ≤ 9223372036854775807 := by
  rw [List.getD_eq_getElem?_getD]
  cases hj : zs[j]? with
  | none => simp
  | some z => exact h.rng z (List.mem_of_getElem? hj)
/-- A list of byte lists that lies in memory. -/
structure Pcs (w : World) (A : Option Addr) (n c : Nat) (ps : List (List Int)) : Prop where
  len : ps.length = n
  cap : n ≤ c
  max : c ≤ 9223372036854775807
  rd : 0 < n → ∃ b o, A = some ⟨b, o, none⟩ ∧ ∀ j, j < n → ∃ A' c', w.cell? ⟨b, o + j, none⟩ = some (.slice A' (ps.getD j []).length c') ∧ Bs w A' (ps.getD j []).length c' (ps.getD j [])
theorem Pcs.next {w w' : World} {A : Option Addr} {n c : Nat} {ps : List (List Int)} (h : Pcs w A n c ps) (hb : Below w.heap.size w w') : Pcs w' A n c ps :=
  ⟨h.len, h.cap, h.max, fun hn => by
    obtain ⟨b, o, e, hr⟩ := h.rd hn
    refine ⟨b, o, e, fun j hj => ?_⟩
    obtain ⟨A', c', h1, h2⟩ := hr j hj
    exact ⟨A', c', (hb.cell (World.block_lt_of_cell? w _ h1)).trans h1, h2.next hb⟩⟩
theorem bd64 {z : Int} (h : (Lit.int .i64 z).wf = true) : -9223372036854775808 ≤ z ∧ z ≤ 9223372036854775807 := bounds_i64 h
theorem is_of {W : World} {x : Addr} {len cap : Nat} {zs : List Int} (hl : len ≤ cap) (hm : cap ≤ maxLen) (hz : zs.length = cap) (hc : ∀ i, i < zs.length → W.cell? (x.add i) = some (.int .i64 (zs.getD i 0))) (hw : ∀ n ∈ zs, (Lit.int .i64 n).wf = true) :
    Is W (some x) len cap (zs.take len) := by
  refine ⟨by simp; omega, hl, by simpa [maxLen] using hm, fun y hy => bd64 (hw y (List.mem_of_mem_take hy)), fun h0 => ?_⟩
  obtain ⟨b, o, rfl, hr⟩ := ints_at hc (by omega)
  refine ⟨b, o, rfl, fun j hj => ?_⟩
  rw [hr j (by omega)]
  simp [List.getD_eq_getElem?_getD, hj]
/-- The bulk of a list of numbers, its spare room with it. -/
theorem bulk_lits {H : Type} (k : IntKind) (l : List Int) : l.length ≤ Rows.uptoBulkAll (lits k l : List (DataW H)) := by
  have := bulk_len (lits k l : List (DataW H))
  simpa [lits] using this
section
variable {H : Type} {enc : TypeId × Value → H} {w : World} {base : Nat} {held : Bool}
set_option maxRecDepth 100000 in
theorem open_is {n : Nat} {v : Value} {y : DataW H × List MemPlace} (hf : DataW.trod enc Tryd.prog w base (fun _ => true) held n 69 [v] = some y) :
    ∃ A k c zs, v = .slice A k c ∧ Is w A k c zs ∧ k ≤ Rows.uptoBulk y.1 := by
  rcases open_ints Tryd.underlying69 Tryd.underlying3 (by kernel_rfl) hf with ⟨hcs, hn⟩ | ⟨x, l, c, zs, hcs, _, hl, hm, hz, hx, hcell, hwz⟩
  · obtain rfl := (List.cons.inj hcs).1
    exact ⟨none, 0, 0, [], rfl, ⟨rfl, Nat.le_refl _, by omega, (fun x hx => by cases hx), fun h => by omega⟩, Nat.zero_le _⟩
  · obtain rfl := (List.cons.inj hcs).1
    refine ⟨_, _, _, _, rfl, is_of hl hm (by simpa using hz) hcell hwz, ?_⟩
    subst hx
    have h1 := bulk_lits (H := H) .i64 (zs.take l)
    have : l ≤ zs.length := by rw [hz]; split <;> omega
    simp only [Rows.uptoBulk]
    simp at h1
    omega
/-- A list of bytes; its bulk. -/
theorem open_bsU {n : Nat} {v : Value} {y : DataW H × List MemPlace} (hf : DataW.trod enc Tryd.prog w base (fun _ => true) held n 38 [v] = some y) :
    ∃ A k c xs, v = .slice A k c ∧ Bs w A k c xs ∧ k + 1 ≤ Rows.uptoBulk y.1 := by
  rcases open_ints Tryd.underlying38 Tryd.underlying5 (by kernel_rfl) hf with ⟨hcs, hn⟩ | ⟨x, l, c, zs, hcs, _, hl, hm, hz, hx, hcell, hwz⟩
  · obtain rfl := (List.cons.inj hcs).1
    exact ⟨none, 0, 0, [], rfl, ⟨rfl, Nat.le_refl _, by omega, (fun x hx => by cases hx), fun _ => ⟨rfl, rfl⟩, fun h => by omega⟩, by subst hn; simp [Rows.uptoBulk]⟩
  · obtain rfl := (List.cons.inj hcs).1
    refine ⟨_, _, _, _, rfl, bytes_of hl hm (by simpa using hz) hcell hwz, ?_⟩
    subst hx
    have h1 := bulk_lits (H := H) .u8 (zs.take l)
    have : l ≤ zs.length := by rw [hz]; split <;> omega
    simp only [Rows.uptoBulk]
    simp at h1
    omega
set_option maxRecDepth 100000 in
theorem open_bytesU {r : Reach} {b0 : Nat} {v : Value} {d : DataW H} {p : List MemPlace} (hv : Value.okWide Tryd.prog w r b0 38 v) (h : DataW.Trod enc Tryd.prog w base (fun _ => true) held 38 v d p) :
    ∃ A n c xs, v = .slice A n c ∧ Bs w A n c xs ∧ n + 1 ≤ Rows.uptoBulk d := by
  obtain ⟨a, len, cap, rfl⟩ := okWide_slice Tryd.underlying38 hv
  obtain ⟨fuel, hf⟩ := h
  obtain ⟨A, k, c, xs, e, h1, h2⟩ := open_bsU hf
  exact ⟨A, k, c, xs, e, h1, h2⟩
set_option maxRecDepth 100000 in
theorem open_intsU {r : Reach} {b0 : Nat} {v : Value} {d : DataW H} {p : List MemPlace} (hv : Value.okWide Tryd.prog w r b0 69 v) (h : DataW.Trod enc Tryd.prog w base (fun _ => true) held 69 v d p) :
    ∃ A n c zs, v = .slice A n c ∧ Is w A n c zs ∧ n ≤ Rows.uptoBulk d := by
  obtain ⟨a, len, cap, rfl⟩ := okWide_slice Tryd.underlying69 hv
  obtain ⟨fuel, hf⟩ := h
  obtain ⟨A, k, c, xs, e, h1, h2⟩ := open_is hf
  exact ⟨A, k, c, xs, e, h1, h2⟩
theorem cells_is : Tryd.prog.cellsOf 69 = 1 := by kernel_rfl
theorem cells_cuts : Tryd.prog.cellsOf 71 = 2 := by kernel_rfl
set_option maxRecDepth 100000 in
theorem open_cuts {r : Reach} {b0 : Nat} {v : Value} {d : DataW H} {p : List MemPlace} (hv : Value.okWide Tryd.prog w r b0 71 v) (h : DataW.Trod enc Tryd.prog w base (fun _ => true) held 71 v d p) :
    ∃ A n c zs B m e us, v = .agg #[.slice A n c, .slice B m e] ∧ Is w A n c zs ∧ Is w B m e us ∧ n + m ≤ Rows.uptoBulk d := by
  obtain ⟨cs, rfl, hsz⟩ := okWide_struct Tryd.underlying71 hv
  obtain ⟨l⟩ := cs
  match l, hsz.trans cells_cuts with
  | [c0, c1], _ =>
    obtain ⟨fuel, hf⟩ := h
    obtain ⟨y0, y1, n, hx, _, k0, k1⟩ := trod_struct2 Tryd.underlying71 hf
    simp [Value.cells, cells_is] at k0 k1
    obtain ⟨A, k, c, zs, rfl, h1, h2⟩ := open_is k0
    obtain ⟨B, m, e, us, rfl, h3, h4⟩ := open_is k1
    refine ⟨A, k, c, zs, B, m, e, us, rfl, h1, h3, ?_⟩
    have hd : d = .agg [y0.1, y1.1] := congrArg (·.1) hx
    subst hd
    simp only [Rows.uptoBulk, Rows.uptoBulkAll]
    omega
set_option maxRecDepth 100000 in
/-- A list of byte lists: its parts, the sum of their lengths. -/
theorem open_pieces {r : Reach} {b0 : Nat} {v : Value} {d : DataW H} {p : List MemPlace} (hv : Value.okWide Tryd.prog w r b0 50 v) (h : DataW.Trod enc Tryd.prog w base (fun _ => true) held 50 v d p) :
    ∃ A n c ps, v = .slice A n c ∧ Pcs w A n c ps ∧ (ps.map List.length).sum + n ≤ Rows.uptoBulk d := by
  obtain ⟨a, len, cap, rfl⟩ := okWide_slice Tryd.underlying50 hv
  obtain ⟨fuel, hf⟩ := h
  rcases open_int_rows Tryd.underlying50 Tryd.underlying38 Tryd.underlying5 (by kernel_rfl) (by kernel_rfl) hf with ⟨hcs, _⟩ | ⟨x, l, c, A, L, C, Z, hcs, _, hl, hm, hx, hr⟩
  · simp [Value.cells] at hcs
    obtain ⟨rfl, rfl, rfl⟩ := hcs
    exact ⟨none, 0, 0, [], rfl, ⟨rfl, Nat.le_refl _, by omega, fun h => by omega⟩, by simp⟩
  · simp [Value.cells] at hcs
    obtain ⟨rfl, rfl, rfl⟩ := hcs
    have hL : ∀ r, r < len → (Z r).length = C r ∧ L r ≤ C r := fun r h => ⟨(hr r (by omega)).2.2.2.1, (hr r (by omega)).2.1⟩
    have hg : ∀ j, j < len → ((List.range len).map fun r => (Z r).take (L r)).getD j [] = (Z j).take (L j) := fun j hj => by
      rw [List.getD_eq_getElem?_getD]; simp [hj]
    refine ⟨_, _, _, (List.range len).map fun r => (Z r).take (L r), rfl, ⟨by simp, hl, by simpa [maxLen] using hm, fun hn => ?_⟩, ?_⟩
    · obtain ⟨b, o, hx0⟩ : ∃ b o, x = ⟨b, o, none⟩ := by
        have h0 := (hr 0 (by omega)).1
        rw [addr_zero] at h0
        exact addr_plain h0
      subst hx0
      refine ⟨b, o, rfl, fun j hj => ?_⟩
      obtain ⟨e1, e2, e3, e4, e5, e6, e7⟩ := hr j (by omega)
      rw [hg j hj]
      have hlj : ((Z j).take (L j)).length = L j := by rw [List.length_take]; omega
      rw [hlj]
      rw [Addr.add_lit] at e1
      refine ⟨A j, C j, e1, ?_⟩
      cases hA : A j with
      | none =>
        have hc0 := e6 hA
        have hl0 : L j = 0 := by omega
        rw [hl0, hc0]
        exact ⟨by simp, Nat.le_refl _, by omega, fun x hx => (by simp at hx), fun _ => ⟨rfl, rfl⟩, fun h => by omega⟩
      | some a' =>
        have h7 := e7 a' hA
        exact bytes_of e2 e3 e4 (fun i hi => h7.2 i (by omega)) e5
    · have hd : d = .slice ((List.range len).map fun r => intRow .u8 (A r) (L r) (Z r)) ((List.range (cap - len)).map fun j => intRow .u8 (A (len + j)) (L (len + j)) (Z (len + j))) := congrArg (·.1) hx
      subst hd
      have hb := bulk_range (H := H) len (fun r => intRow .u8 (A r) (L r) (Z r)) L (fun r hr' => by
        unfold intRow
        cases hA : A r with
        | none =>
          have := (hr r (by omega)).2.2.2.2.2.1 hA
          have := (hL r hr').2
          simp [Rows.uptoBulk]
          omega
        | some a' =>
          have h1 := bulk_lits (H := H) .u8 ((Z r).take (L r))
          rw [List.length_take] at h1
          have := hL r hr'
          simp only [Rows.uptoBulk]
          omega)
      have hs : ((List.range len).map fun r => (Z r).take (L r)).map List.length = (List.range len).map L := by
        rw [List.map_map]
        refine List.map_congr_left fun r hr' => ?_
        have := hL r (List.mem_range.1 hr')
        simp; omega
      rw [hs]
      simp only [Rows.uptoBulk]
      omega
end
end Go.Proofs.YtfddhipdedcacaaDoor
/-
  culvertref01.Bytes.
-/
namespace Go.Proofs.YtfddhipdedcacaaDoor
open Go.RowKit
set_option linter.unusedVariables false
set_option linter.unusedSimpArgs false
set_option maxRecDepth 100000 in
set_option maxHeartbeats 1000000 in
theorem rbytes2 (v : Int) (w : World) (h0 : 0 ≤ v) (h1 : v ≤ 65535) :
    Calls Tryd.prog 60 #[.int .i64 v, .int .i64 2] w fun e w' => ∃ g, e = .returned (.slice (some ⟨g, 0, none⟩) 2 2) ∧ w'.ownsRow w.heap.size 5 1 (.slice (some ⟨g, 0, none⟩) 2 2) 2 (nums .u8 [v / 256, v % 256]) ∧ Below w.heap.size w w' := by
  have hmk : ∀ w : World, (Instr.makeSlice 38 (.int .i64 2) (.int .i64 2)).run Tryd.prog w = .ok (.slice (some ⟨w.heap.size, 0, none⟩) 2 2) (w.alloc (.cells #[.int .u8 0, .int .u8 0] 5)) := fun _ => by kernel_rfl
  go_enter Tryd.func60, Tryd.ntmps60
  go_wp2_with fail
  refine wp_loop_rounds 3 ?_
  rw [rounds_succ]
  go_wp2_with fail
  rw [rounds_succ]
  go_wp2_with fail
  rw [rounds_succ]
  go_wp2_with fail
  go_ret
  refine ⟨_, rfl, own_block (Nat.le_refl _) (alloc_at _ _) ?_ rfl (by unfold maxLen; omega), (Below.refl _ _).alloc (Nat.le_refl _) _⟩
  simp [nums]
  omega
set_option maxRecDepth 100000 in
set_option maxHeartbeats 1000000 in
theorem rbytes4 (v : Int) (w : World) (h0 : 0 ≤ v) (h1 : v ≤ 4294967295) :
    Calls Tryd.prog 60 #[.int .i64 v, .int .i64 4] w fun e w' => ∃ g, e = .returned (.slice (some ⟨g, 0, none⟩) 4 4) ∧ w'.ownsRow w.heap.size 5 1 (.slice (some ⟨g, 0, none⟩) 4 4) 4 (nums .u8 [v / 16777216, v / 65536 % 256, v / 256 % 256, v % 256]) ∧ Below w.heap.size w w' := by
  have hmk : ∀ w : World, (Instr.makeSlice 38 (.int .i64 4) (.int .i64 4)).run Tryd.prog w = .ok (.slice (some ⟨w.heap.size, 0, none⟩) 4 4) (w.alloc (.cells #[.int .u8 0, .int .u8 0, .int .u8 0, .int .u8 0] 5)) := fun _ => by kernel_rfl
  go_enter Tryd.func60, Tryd.ntmps60
  go_wp2_with fail
  refine wp_loop_rounds 5 ?_
  rw [rounds_succ]
  go_wp2_with fail
  rw [rounds_succ]
  go_wp2_with fail
  rw [rounds_succ]
  go_wp2_with fail
  rw [rounds_succ]
  go_wp2_with fail
  rw [rounds_succ]
  go_wp2_with fail
  go_ret
  refine ⟨_, rfl, own_block (Nat.le_refl _) (alloc_at _ _) ?_ rfl (by unfold maxLen; omega), (Below.refl _ _).alloc (Nat.le_refl _) _⟩
  simp [nums]
  omega
end Go.Proofs.YtfddhipdedcacaaDoor
/-
  The reference's Encode.
-/
namespace Go.Proofs.YtfddhipdedcacaaDoor
open Go.RowKit
set_option linter.unusedVariables false
set_option linter.unusedSimpArgs false
theorem row_bs {w : World} {base g : Nat} {n : Nat} {xs : List Int} (h : w.ownsRow base 5 1 (.slice (some ⟨g, 0, none⟩) n n) n (nums .u8 xs)) (hx : ∀ x ∈ xs, 0 ≤ x ∧ x ≤ 255) (hl : xs.length = n) (hn : n ≤ 100) : Bs w (some ⟨g, 0, none⟩) n n xs :=
  ⟨hl, Nat.le_refl _, by omega, hx, (fun e => by cases e), fun h0 => ⟨g, 0, rfl, fun j hj => by
    rw [Nat.zero_add, h.cellAt j (by omega)]
    simp [nums, List.getD_eq_getElem?_getD, List.getElem?_eq_getElem (show j < xs.length by omega)]⟩⟩

set_option maxRecDepth 100000 in
set_option maxHeartbeats 1000000 in
theorem rencode_any (ver ty fl st ln : Int) (w : World) (v0 : 0 ≤ ver) (v255 : ver ≤ 255) (t0 : 0 ≤ ty) (t1 : ty ≤ 255) (f0 : 0 ≤ fl) (f1 : fl ≤ 65535) (s0 : 0 ≤ st) (s1 : st ≤ 4294967295) (l0 : 0 ≤ ln) (l1 : ln ≤ 4294967295) :
    Calls Tryd.prog 42 #[hdr ver ty fl st ln] w fun e w' => ∃ v, e = .returned v ∧ Own w' w.heap.size v (enc ver ty fl st ln) ∧ Below w.heap.size w w' := by
  obtain ⟨w1, hw1⟩ : ∃ w1, w1 = (w.alloc (.cells #[.int .u8 ver, .int .u8 ty, .int .u16 fl, .int .u32 st, .int .u32 ln] 26)).alloc (.cells #[.int .u8 ver, .int .u8 ty] 5) := ⟨_, rfl⟩
  have hH1 : w1.heap[w.heap.size]? = some (.cells #[.int .u8 ver, .int .u8 ty, .int .u16 fl, .int .u32 st, .int .u32 ln] 26 (0, 0)) := by rw [hw1, blk_old _ (by simp), alloc_at]
  have hO1 : Own w1 (w.heap.size + 1) (.slice (some ⟨w.heap.size + 1, 0, none⟩) 2 2) [ver, ty] := by
    have := own_new (w.alloc (.cells #[.int .u8 ver, .int .u8 ty, .int .u16 fl, .int .u32 st, .int .u32 ln] 26)) (w.heap.size + 1) [ver, ty] (by simp) (by simp)
    rw [hw1]
    simpa [nums] using this
  have hB1 : Below w.heap.size w w1 := by rw [hw1]; exact ((Below.refl _ _).alloc (Nat.le_refl _) _).alloc (by simp) _
  have hZ1 : w.heap.size + 2 ≤ w1.heap.size := by rw [hw1]; simp
  have HH1 := Lib.hid hH1
  have HO1 := Lib.hid hO1
  have HB1 := Lib.hid hB1
  have HE := Lib.hid hw1
  clear hH1 hO1 hB1 hw1
  go_enter Tryd.func42, Tryd.ntmps42
  go_wp2_with fail
  rw [← HE.out]
  clear HE
  refine (rbytes2 fl w1 f0 f1).mono ?_
  rintro e w2 ⟨g1, rfl, ho2, hb2⟩
  have Ho1 := Lib.hid ho2
  have HH2 := Lib.hid ((hb2.block _ (by omega)).trans HH1.out)
  have HO2 := Lib.hid (HO1.out.next hb2)
  have HB2 := Lib.hid (HB1.out.trans (hb2.mono (by omega)))
  have hZ2 : w.heap.size + 2 ≤ w2.heap.size := by have := hb2.size; omega
  clear ho2 hb2
  go_wp2_with (at_builtin; refine wpList_append_bs rfl _ _ rfl (w.heap.size + 1) (.slice (some ⟨w.heap.size + 1, 0, none⟩) 2 2) [ver, ty] rfl HO2.out _ _ _ [fl / 256, fl % 256] rfl (row_bs Ho1.out (by simp; omega) rfl (by omega)) (by simp) (by omega) ?_; intro v3 w3 ho3 hg3 hz3; have HH3 := Lib.hid (grown_blk hg3 (fun e => by have := (HO2.out.lt _ e).1; omega) HH2.out); have HO3 := Lib.hid ho3; have HB3 := Lib.hid (HB2.out.grown hg3 (by omega) (fun k hk => by have := (HO2.out.lt _ hk).1; omega)); have hZ3 : w.heap.size + 2 ≤ w3.heap.size := (by have := hg3.size; omega); have e3 : w3.cell? ⟨w.heap.size, 3, none⟩ = some (.int .u32 st) := cell_blk HH3.out rfl; clear ho3 hg3 hz3)
  refine (rbytes4 st w3 s0 s1).mono ?_
  rintro e w4 ⟨g2, rfl, ho4, hb4⟩
  have Ho3 := Lib.hid ho4
  have HH4 := Lib.hid ((hb4.block _ (by omega)).trans HH3.out)
  have HO4 := Lib.hid (HO3.out.next hb4)
  have HB4 := Lib.hid (HB3.out.trans (hb4.mono (by omega)))
  have hZ4 : w.heap.size + 2 ≤ w4.heap.size := by have := hb4.size; omega
  clear ho4 hb4
  go_wp2_with (at_builtin; refine wpList_append_bs rfl _ _ rfl (w.heap.size + 1) v3 ([ver, ty] ++ [fl / 256, fl % 256]) rfl HO4.out _ _ _ [st / 16777216, st / 65536 % 256, st / 256 % 256, st % 256] rfl (row_bs Ho3.out (by simp; omega) rfl (by omega)) (by simp) (by omega) ?_; intro v5 w5 ho5 hg5 hz5; have HH5 := Lib.hid (grown_blk hg5 (fun e => by have := (HO4.out.lt _ e).1; omega) HH4.out); have HO5 := Lib.hid ho5; have HB5 := Lib.hid (HB4.out.grown hg5 (by omega) (fun k hk => by have := (HO4.out.lt _ hk).1; omega)); have hZ5 : w.heap.size + 2 ≤ w5.heap.size := (by have := hg5.size; omega); have e5 : w5.cell? ⟨w.heap.size, 4, none⟩ = some (.int .u32 ln) := cell_blk HH5.out rfl; clear ho5 hg5 hz5)
  refine (rbytes4 ln w5 l0 l1).mono ?_
  rintro e w6 ⟨g3, rfl, ho6, hb6⟩
  have Ho5 := Lib.hid ho6
  have HH6 := Lib.hid ((hb6.block _ (by omega)).trans HH5.out)
  have HO6 := Lib.hid (HO5.out.next hb6)
  have HB6 := Lib.hid (HB5.out.trans (hb6.mono (by omega)))
  have hZ6 : w.heap.size + 2 ≤ w6.heap.size := by have := hb6.size; omega
  clear ho6 hb6
  go_wp2_with (at_builtin; refine wpList_append_bs rfl _ _ rfl (w.heap.size + 1) v5 ([ver, ty] ++ [fl / 256, fl % 256] ++ [st / 16777216, st / 65536 % 256, st / 256 % 256, st % 256]) rfl HO6.out _ _ _ [ln / 16777216, ln / 65536 % 256, ln / 256 % 256, ln % 256] rfl (row_bs Ho5.out (by simp; omega) rfl (by omega)) (by simp) (by omega) ?_; intro v7 w7 ho7 hg7 hz7; have HH7 := Lib.hid (grown_blk hg7 (fun e => by have := (HO6.out.lt _ e).1; omega) HH6.out); have HO7 := Lib.hid ho7; have HB7 := Lib.hid (HB6.out.grown hg7 (by omega) (fun k hk => by have := (HO6.out.lt _ hk).1; omega)); have hZ7 : w.heap.size + 2 ≤ w7.heap.size := (by have := hg7.size; omega); clear ho7 hg7 hz7)
  go_ret
  refine ⟨v7, rfl, ?_, HB7.out⟩
  have h := HO7.out
  exact ⟨h.1, by rcases h.2 with h | ⟨g, cap, cur, a, b, c⟩; exact .inl h; exact .inr ⟨g, cap, cur, a, by omega, c⟩⟩
end Go.Proofs.YtfddhipdedcacaaDoor
/-
  frame.Bytes and the reference's Bytes.
-/
namespace Go.Proofs.YtfddhipdedcacaaDoor
open Go.RowKit
set_option linter.unusedVariables false
set_option linter.unusedSimpArgs false
/-- A frame, as a value. -/
abbrev frm (ver ty fl st ln : Int) (A : Option Addr) (n c : Nat) : Value := .agg #[.int .u8 ver, .int .u8 ty, .int .u16 fl, .int .u32 st, .int .u32 ln, .slice A n c]
set_option maxRecDepth 100000 in
set_option maxHeartbeats 1000000 in
theorem fbytes_yes (ver ty fl st ln : Int) (A : Option Addr) (n c : Nat) (xs : List Int) (w : World) (hB : Bs w A n c xs) (f0 : 0 ≤ fl) (f1 : fl ≤ 65535) (s0 : 0 ≤ st) (s1 : st ≤ 4294967295) (l0 : 0 ≤ ln) (l1 : ln ≤ 4294967295) (hne : (n : Int) = szF ty ln) :
    Calls Tryd.prog 27 #[frm ver ty fl st ln A n c] w fun e w' => ∃ v, e = .returned (.tuple #[v, .nilIface]) ∧ Own w' w.heap.size v (enc ver ty fl st ln ++ xs) ∧ Below w.heap.size w w' := by
  obtain ⟨w1, hw1⟩ : ∃ w1, w1 = w.alloc (.cells #[.int .u8 ver, .int .u8 ty, .int .u16 fl, .int .u32 st, .int .u32 ln, .slice A n c] 45) := ⟨_, rfl⟩
  have hx : w1.heap[w.heap.size]? = some (.cells #[.int .u8 ver, .int .u8 ty, .int .u16 fl, .int .u32 st, .int .u32 ln, .slice A n c] 45 (0, 0)) := by rw [hw1, alloc_at]
  have hB1 : Below w.heap.size w w1 := by rw [hw1]; exact (Below.refl _ _).alloc (Nat.le_refl _) _
  have e0 : w1.cell? ⟨w.heap.size, 0, none⟩ = some (.int .u8 ver) := cell_blk hx rfl
  have e1 : w1.cell? ⟨w.heap.size, 1, none⟩ = some (.int .u8 ty) := cell_blk hx rfl
  have e2 : w1.cell? ⟨w.heap.size, 2, none⟩ = some (.int .u16 fl) := cell_blk hx rfl
  have e3 : w1.cell? ⟨w.heap.size, 3, none⟩ = some (.int .u32 st) := cell_blk hx rfl
  have e4 : w1.cell? ⟨w.heap.size, 4, none⟩ = some (.int .u32 ln) := cell_blk hx rfl
  have e5 : w1.cell? ⟨w.heap.size, 5, none⟩ = some (.slice A n c) := cell_blk hx rfl
  have k0 := cell_regrown e0
  have k1 := cell_regrown e1
  have k2 := cell_regrown e2
  have k3 := cell_regrown e3
  have k4 := cell_regrown e4
  have k5 := cell_regrown e5
  have cS : ∀ d os, Calls Tryd.prog 43 #[hdr ver ty fl st ln] (Go.Sort.grow (redrawn w1 d) os) fun e w'' => e = .returned (.int .i64 (szF ty ln)) ∧ ∃ p : Regrown, w'' = Go.Sort.grow (redrawn w1 p.d) p.os := fun d os => Calls.regrown_of (size_any ver ty fl st ln _ l0 l1)
  have HE := Lib.hid hw1
  have HX := Lib.hid hx
  have HB1 := Lib.hid hB1
  clear hw1 hx hB1
  go_enter Tryd.func27, Tryd.ntmps27
  go_wp2_with fail
  rw [← HE.out]
  refine wp_region_quiet_below (by kernel_rfl) (by kernel_rfl) ?_
  repeat (quiet_step (with_reducible exact cS _ _))
  refine wpQuiet_nil ?_
  intro _ hw'
  obtain ⟨⟨dq, osq⟩, hw''⟩ := hw'
  have hb12 : Below w1.heap.size w1 (Go.Sort.grow (redrawn w1 dq) osq) := below_regrown w1 dq osq
  rw [← hw''] at hb12
  clear hw'' cS k0 k1 k2 k3 k4 k5 e0 e1 e2 e3 e4 e5
  rename World => w2
  have HX2 := Lib.hid ((hb12.block _ (Array.getElem?_eq_some_iff.1 HX.out).1).trans HX.out)
  have HB2 := Lib.hid (HB1.out.trans (hb12.mono HB1.out.size))
  clear hb12 HX
  have hd : ((n : Int) != szF ty ln) = false := by simp [hne]
  have e0 : w2.cell? ⟨w.heap.size, 0, none⟩ = some (.int .u8 ver) := cell_blk HX2.out rfl
  have e1 : w2.cell? ⟨w.heap.size, 1, none⟩ = some (.int .u8 ty) := cell_blk HX2.out rfl
  have e2 : w2.cell? ⟨w.heap.size, 2, none⟩ = some (.int .u16 fl) := cell_blk HX2.out rfl
  have e3 : w2.cell? ⟨w.heap.size, 3, none⟩ = some (.int .u32 st) := cell_blk HX2.out rfl
  have e4 : w2.cell? ⟨w.heap.size, 4, none⟩ = some (.int .u32 ln) := cell_blk HX2.out rfl
  have e5 : w2.cell? ⟨w.heap.size, 5, none⟩ = some (.slice A n c) := cell_blk HX2.out rfl
  have hnl : n ≤ 4294967295 := by unfold szF at hne; split at hne <;> omega
  have HBs := Lib.hid hB
  have hszB := HB2.out.size
  have hcE : ∀ W, Calls Tryd.prog 28 #[hdr ver ty fl st ln] W _ := fun W => encode_any ver ty fl st ln W f0 f1 s0 s1 l0 l1
  clear hB
  go_wp2_with fail
  go_region_law (first
    | (go_simp; go_at_call 28; refine (hcE _).mono ?_; rintro e w3 ⟨g3, rfl, ho3, hb3⟩; have HO3 : Hid (Own w3 w2.heap.size (.slice (some ⟨g3, 0, none⟩) 12 12) (enc ver ty fl st ln)) := ho3; have HB23 := Lib.hid ((Below.refl w2.heap.size w2).drew.trans hb3); have hz3 := hb3.size; have d5 : w3.cell? ⟨w.heap.size, 5, none⟩ = some (.slice A n c) := cell_blk ((HB23.out.block _ (Array.getElem?_eq_some_iff.1 HX2.out).1).trans HX2.out) rfl; have HBs3 := Lib.hid ((HBs.out.next (HB2.out)).next HB23.out); clear ho3 hb3)
    | (refine step_append_bs rfl (.tmp 14) (.tmp 16) rfl w2.heap.size (.slice (some ⟨g3, 0, none⟩) 12 12) (enc ver ty fl st ln) (by simp [Act.eval, Act.put]) HO3.out A n c xs (by simp [Act.eval, Act.put]) HBs3.out (by simp [enc]; omega) (by simpa using hz3) ?_; intro v4 w4 ho4 hg4 hz4; have HO4 := Lib.hid ho4; have HB4 := Lib.hid (HB23.out.grown hg4 (by simpa using hz3) (fun k hk => (HO3.out.lt k hk).1)); clear ho4 hg4 hz4))
  all_goals
    go_wp2_with fail
    go_ret2
    exact ⟨v4, rfl, ⟨HO4.out.1, by rcases HO4.out.2 with h | ⟨g, cap, cur, a, b, c⟩; exact .inl h; exact .inr ⟨g, cap, cur, a, by omega, c⟩⟩, HB2.out.trans (HB4.out.mono hszB)⟩
set_option maxRecDepth 100000 in
set_option maxHeartbeats 1000000 in
theorem fbytes_no {sa : Nat → Addr} (ver ty fl st ln : Int) (A : Option Addr) (n c : Nat) (xs : List Int) (w : World) (hG : Good w sa) (hB : Bs w A n c xs) (f0 : 0 ≤ fl) (f1 : fl ≤ 65535) (s0 : 0 ≤ st) (s1 : st ≤ 4294967295) (l0 : 0 ≤ ln) (l1 : ln ≤ 4294967295) (hne : ¬ (n : Int) = szF ty ln) :
    Calls Tryd.prog 27 #[frm ver ty fl st ln A n c] w fun e w' => e = .returned (.tuple #[.slice none 0 0, sv (sa 15)]) ∧ Below w.heap.size w w' := by
  obtain ⟨w1, hw1⟩ : ∃ w1, w1 = w.alloc (.cells #[.int .u8 ver, .int .u8 ty, .int .u16 fl, .int .u32 st, .int .u32 ln, .slice A n c] 45) := ⟨_, rfl⟩
  have hx : w1.heap[w.heap.size]? = some (.cells #[.int .u8 ver, .int .u8 ty, .int .u16 fl, .int .u32 st, .int .u32 ln, .slice A n c] 45 (0, 0)) := by rw [hw1, alloc_at]
  have hB1 : Below w.heap.size w w1 := by rw [hw1]; exact (Below.refl _ _).alloc (Nat.le_refl _) _
  have e0 : w1.cell? ⟨w.heap.size, 0, none⟩ = some (.int .u8 ver) := cell_blk hx rfl
  have e1 : w1.cell? ⟨w.heap.size, 1, none⟩ = some (.int .u8 ty) := cell_blk hx rfl
  have e2 : w1.cell? ⟨w.heap.size, 2, none⟩ = some (.int .u16 fl) := cell_blk hx rfl
  have e3 : w1.cell? ⟨w.heap.size, 3, none⟩ = some (.int .u32 st) := cell_blk hx rfl
  have e4 : w1.cell? ⟨w.heap.size, 4, none⟩ = some (.int .u32 ln) := cell_blk hx rfl
  have e5 : w1.cell? ⟨w.heap.size, 5, none⟩ = some (.slice A n c) := cell_blk hx rfl
  have k0 := cell_regrown e0
  have k1 := cell_regrown e1
  have k2 := cell_regrown e2
  have k3 := cell_regrown e3
  have k4 := cell_regrown e4
  have k5 := cell_regrown e5
  have cS : ∀ d os, Calls Tryd.prog 43 #[hdr ver ty fl st ln] (Go.Sort.grow (redrawn w1 d) os) fun e w'' => e = .returned (.int .i64 (szF ty ln)) ∧ ∃ p : Regrown, w'' = Go.Sort.grow (redrawn w1 p.d) p.os := fun d os => Calls.regrown_of (size_any ver ty fl st ln _ l0 l1)
  have HE := Lib.hid hw1
  have HX := Lib.hid hx
  have HB1 := Lib.hid hB1
  clear hw1 hx hB1
  go_enter Tryd.func27, Tryd.ntmps27
  go_wp2_with fail
  rw [← HE.out]
  refine wp_region_quiet_below (by kernel_rfl) (by kernel_rfl) ?_
  repeat (quiet_step (with_reducible exact cS _ _))
  refine wpQuiet_nil ?_
  intro _ hw'
  obtain ⟨⟨dq, osq⟩, hw''⟩ := hw'
  have hb12 : Below w1.heap.size w1 (Go.Sort.grow (redrawn w1 dq) osq) := below_regrown w1 dq osq
  rw [← hw''] at hb12
  clear hw'' cS k0 k1 k2 k3 k4 k5 e0 e1 e2 e3 e4 e5
  rename World => w2
  have HX2 := Lib.hid ((hb12.block _ (Array.getElem?_eq_some_iff.1 HX.out).1).trans HX.out)
  have HB2 := Lib.hid (HB1.out.trans (hb12.mono HB1.out.size))
  clear hb12 HX
  have hG2 := Lib.hid (hG.below HB2.out)
  clear hG
  have hd : ((n : Int) != szF ty ln) = true := by simp [hne]
  have g15 := (hG2.out.at_ 15 (by omega) (by omega)).glob
  simp only [sgb] at g15
  go_wp2_with fail
  go_region
  all_goals
    go_wp2_with fail
    go_ret2
    exact ⟨rfl, HB2.out.drew⟩
end Go.Proofs.YtfddhipdedcacaaDoor
/-
  culvertref01.SameBytes: two lists of bytes are one.
-/
namespace Go.Proofs.YtfddhipdedcacaaDoor
open Go.RowKit
set_option linter.unusedVariables false
set_option linter.unusedSimpArgs false
theorem str_of {w : World} {A : Option Addr} {n c : Nat} {xs : List Int} (h : Bs w A n c xs) : (convert 38 9 (.slice A n c)).run Tryd.prog w = .ok (.string (strOfNums xs)) w := by
  rcases Nat.eq_zero_or_pos n with h0 | h0
  · subst h0
    have : xs = [] := List.eq_nil_of_length_eq_zero h.len
    subst this
    rw [run_convert_bytes_string w 38 9 5 A 0 c Tryd.underlying38 Tryd.underlying5 Tryd.underlying9]
    cases A <;> rfl
  · obtain ⟨b, o, rfl, hr⟩ := h.rd h0
    exact run_convert_bytes_arg w 38 5 Tryd.underlying38 Tryd.underlying5 b o n c xs h.len hr 9 Tryd.underlying9
set_option maxRecDepth 100000 in
theorem same_any {w : World} {A B : Option Addr} {n c m d : Nat} {xs ys : List Int} (hx : Bs w A n c xs) (hy : Bs w B m d ys) :
    Calls Tryd.prog 41 #[.slice A n c, .slice B m d] w fun e w' => e = .returned (.bool ((strOfNums xs).toList == (strOfNums ys).toList)) ∧ w' = w := by
  have h1 := str_of hx
  have h2 := str_of hy
  clear hx hy
  go_enter Tryd.func41, Tryd.ntmps41
  go_wp2_with fail
  go_ret
  exact ⟨rfl, rfl⟩
end Go.Proofs.YtfddhipdedcacaaDoor
/-
  Rows of bytes told by their cells; an append that may write into a row's spare room.
-/
namespace Go.Proofs.YtfddhipdedcacaaDoor
open Go.RowKit
set_option linter.unusedVariables false
set_option linter.unusedSimpArgs false
/-- A slice of n bytes with room for c, from offset o of block b on; byte j is f j. -/
structure CR (W : World) (b o n c : Nat) (f : Nat → Int) : Prop where
  le : n ≤ c
  max : c ≤ 9223372036854775807
  rd : ∀ j, j < n → W.cell? ⟨b, o + j, none⟩ = some (.int .u8 (f j))
  there : ∀ j, j < c → (W.cell? ⟨b, o + j, none⟩).isSome = true ∧ W.frozen? ⟨b, o + j, none⟩ = false
/-- w1 is W but for cells of block b from lo on, and for new blocks. -/
structure Spr (W w1 : World) (b lo : Nat) : Prop where
  os : w1.os = W.os
  tape : w1.tape = W.tape
  output : w1.output = W.output
  size : W.heap.size ≤ w1.heap.size
  block : ∀ k, k < W.heap.size → k ≠ b → w1.heap[k]? = W.heap[k]?
  cell : ∀ j, b < W.heap.size → j < lo → w1.cell? ⟨b, j, none⟩ = W.cell? ⟨b, j, none⟩
  there : ∀ j, b < W.heap.size → (W.cell? ⟨b, j, none⟩).isSome = true → (w1.cell? ⟨b, j, none⟩).isSome = true
  frozen : ∀ j, b < W.heap.size → w1.frozen? ⟨b, j, none⟩ = W.frozen? ⟨b, j, none⟩
theorem Spr.refl (W : World) (b lo : Nat) : Spr W W b lo := ⟨rfl, rfl, rfl, Nat.le_refl _, fun _ _ _ => rfl, fun _ _ _ => rfl, fun _ _ h => h, fun _ _ => rfl⟩
theorem Spr.of_below {W w1 : World} {b lo : Nat} (h : Below W.heap.size W w1) : Spr W w1 b lo :=
  ⟨h.os, h.tape, h.output, h.size, fun k hk _ => h.block k hk, fun j hb _ => h.cell (p := ⟨b, j, none⟩) hb, fun j hb hs => by rw [h.cell (p := ⟨b, j, none⟩) hb]; exact hs, fun j hb => h.frozen (p := ⟨b, j, none⟩) hb⟩
theorem Spr.trans {W w1 w2 : World} {b lo : Nat} (h : Spr W w1 b lo) (k : Spr w1 w2 b lo) : Spr W w2 b lo :=
  ⟨k.os.trans h.os, k.tape.trans h.tape, k.output.trans h.output, Nat.le_trans h.size k.size, fun i hi hn => (k.block i (Nat.lt_of_lt_of_le hi h.size) hn).trans (h.block i hi hn), fun j hb hj => (k.cell j (Nat.lt_of_lt_of_le hb h.size) hj).trans (h.cell j hb hj), fun j hb hs => k.there j (Nat.lt_of_lt_of_le hb h.size) (h.there j hb hs), fun j hb => (k.frozen j (Nat.lt_of_lt_of_le hb h.size)).trans (h.frozen j hb)⟩
theorem Spr.mono {W w1 : World} {b lo lo' : Nat} (h : Spr W w1 b lo) (hl : lo' ≤ lo) : Spr W w1 b lo' := ⟨h.os, h.tape, h.output, h.size, h.block, fun j hb hj => h.cell j hb (by omega), h.there, h.frozen⟩
/-- A change in a block that is new at W is none of W's. -/
theorem Spr.fresh {W w1 w2 : World} {b lo b' lo' : Nat} (h : Spr W w1 b lo) (k : Spr w1 w2 b' lo') (hb' : W.heap.size ≤ b') : Spr W w2 b lo := by
  have hblk : ∀ i, i < W.heap.size → w2.heap[i]? = w1.heap[i]? := fun i hi => k.block i (Nat.lt_of_lt_of_le hi h.size) (by omega)
  exact ⟨k.os.trans h.os, k.tape.trans h.tape, k.output.trans h.output, Nat.le_trans h.size k.size, fun i hi hn => (hblk i hi).trans (h.block i hi hn),
    fun j hb hj => (World.cell?_of_block (a := ⟨b, j, none⟩) (hblk b hb)).trans (h.cell j hb hj), fun j hb hs => by rw [World.cell?_of_block (a := ⟨b, j, none⟩) (hblk b hb)]; exact h.there j hb hs, fun j hb => (World.frozen?_of_block (a := ⟨b, j, none⟩) (hblk b hb)).trans (h.frozen j hb)⟩
theorem Spr.alloc (W : World) (b lo : Nat) (o : Obj) : Spr W (W.alloc o) b lo := Spr.of_below ((Below.refl _ _).alloc (Nat.le_refl _) _)
theorem Spr.set {W : World} {b lo i : Nat} (hi : lo ≤ i) (v : Value) : Spr W (W.setCell ⟨b, i, none⟩ v) b lo :=
  ⟨rfl, rfl, rfl, by simp, fun k hk hn => Below.heap_setCell _ _ _ _ hn, fun j hb hj => World.cell?_setCell_other _ _ _ _ (by simp <;> omega), fun j hb hs => by
    obtain ⟨x, hx⟩ := Option.isSome_iff_exists.1 hs
    obtain ⟨y, hy⟩ := cell?_setCell_some (p := ⟨b, i, none⟩) (x := v) hx
    rw [hy]; rfl, fun j hb => by simp⟩
/-- The block's cells, as they are behind such a change. -/
theorem Spr.below {W w1 : World} {b lo B : Nat} (h : Spr W w1 b lo) (hb : B ≤ b) (hB : B ≤ W.heap.size) : Below B W w1 := ⟨h.os, h.tape, h.output, h.size, fun k hk => h.block k (by omega) (by omega)⟩
theorem Spr.cr {W w1 : World} {b lo : Nat} (h : Spr W w1 b lo) {b' o n c : Nat} {f : Nat → Int} (hC : CR W b' o n c f) (hb : b' < W.heap.size) (hn : b' = b → o + n ≤ lo) : CR w1 b' o n c f := by
  refine ⟨hC.le, hC.max, fun j hj => ?_, fun j hj => ?_⟩
  · by_cases e : b' = b
    · subst e
      rw [h.cell (o + j) hb (by have := hn rfl; omega)]; exact hC.rd j hj
    · rw [World.cell?_of_block (a := ⟨b', o + j, none⟩) (h.block b' hb e)]; exact hC.rd j hj
  · by_cases e : b' = b
    · subst e
      exact ⟨h.there _ hb (hC.there j hj).1, (h.frozen _ hb).trans (hC.there j hj).2⟩
    · exact ⟨by rw [World.cell?_of_block (a := ⟨b', o + j, none⟩) (h.block b' hb e)]; exact (hC.there j hj).1, (World.frozen?_of_block (a := ⟨b', o + j, none⟩) (h.block b' hb e)).trans (hC.there j hj).2⟩
theorem CR.below {W w1 : World} {b o n c : Nat} {f : Nat → Int} (h : CR W b o n c f) (hb : b < W.heap.size) (hB : Below W.heap.size W w1) : CR w1 b o n c f := (Spr.of_below (b := b) (lo := o + n) hB).cr h hb fun _ => Nat.le_refl _
theorem CR.pre {W : World} {b o n c m : Nat} {f : Nat → Int} (h : CR W b o n c f) (hm : m ≤ n) : CR W b o m c f := ⟨Nat.le_trans hm h.le, h.max, fun j hj => h.rd j (by omega), h.there⟩
theorem CR.congr {W : World} {b o n c : Nat} {f g : Nat → Int} (h : CR W b o n c f) (e : ∀ j, j < n → f j = g j) : CR W b o n c g := ⟨h.le, h.max, fun j hj => by rw [← e j hj]; exact h.rd j hj, h.there⟩
theorem CR.lt {W : World} {b o n c : Nat} {f : Nat → Int} (h : CR W b o n c f) (hc : 0 < c) : b < W.heap.size := by
  obtain ⟨x, hx⟩ := Option.isSome_iff_exists.1 (h.there 0 hc).1
  exact World.block_lt_of_cell? W _ hx
/-- Out of an own row. -/
theorem Own.cr {W : World} {base : Nat} {v : Value} {xs : List Int} (h : Own W base v xs) (hn : 0 < xs.length) : ∃ g c, v = .slice (some ⟨g, 0, none⟩) xs.length c ∧ base ≤ g ∧ g < W.heap.size ∧ CR W g 0 xs.length c (fun j => xs.getD j 0) := by
  rcases h.2 with ⟨_, h0⟩ | ⟨g, cap, cur, rfl, hb, hh, hnc, hm, hs, ht⟩
  · omega
  · refine ⟨g, cap, rfl, hb, (Array.getElem?_eq_some_iff.1 hh).1, hnc, by simpa [maxLen] using hm, fun j hj => ?_, fun j hj => ?_⟩
    · have hown : W.ownsRow base 5 1 (.slice (some ⟨g, 0, none⟩) xs.length cap) xs.length (nums .u8 xs) := h
      rw [Nat.zero_add, hown.cellAt j (by omega)]
      simp [nums, List.getD_eq_getElem?_getD, List.getElem?_eq_getElem hj]
    · have hj' : j < cur.size := by omega
      exact ⟨by simp [World.cell?, hh, hj'], by simp [World.frozen?, hh]⟩
/-- append(s, y), y in a block of its own: behind 'at_builtin'. -/
theorem cr_append {W : World} {ops : Array Oper} {rest : List Oper} {o : Oper} {a : Act} {Q : Exit → Act → World → Prop} (hgd : o.guard = none) (s x : Operand)
    (ho : o.op = .call { callee := .builtin .append, args := #[s, x], argTypes := #[38, 38] })
    (b o' n c : Nat) (f : Nat → Int) (y : Int) (hs : a.eval s = .slice (some ⟨b, o', none⟩) n c) (hx : a.eval x = .slice (some ⟨W.heap.size, 0, none⟩) 1 1) (hC : CR W b o' n c f) (hb : b < W.heap.size) (hy : f n = y) (hn : n ≤ 1000000000000)
    (h : ∀ b1 o1 c1 w1, CR w1 b1 o1 (n + 1) c1 f → (b1 = b ∧ o1 = o' ∨ W.heap.size ≤ b1) → b1 < w1.heap.size → Spr W w1 b (o' + n) → wpList Tryd.prog ops Q rest (a.put o.dst (.slice (some ⟨b1, o1, none⟩) (n + 1) c1)) w1) :
    wpList Tryd.prog ops Q (o :: rest) a (W.alloc (.cells #[.int .u8 y] 5)) := by
  obtain ⟨i0, hi, hz0, hz1, hz2⟩ := info_parts u8_info
  have hba : Below W.heap.size W (W.alloc (.cells #[.int .u8 y] 5)) := (Below.refl _ _).alloc (Nat.le_refl _) _
  have hC' := hC.below hb hba
  have hbox : (W.alloc (.cells #[.int .u8 y] 5)).heap[W.heap.size]? = some (.cells #[.int .u8 y] 5 (0, 0)) := alloc_at _ _
  have hsz : (W.alloc (.cells #[.int .u8 y] 5)).heap.size = W.heap.size + 1 := by simp
  refine wpList_append_arg _ hgd s x 38 ho 5 i0 (.int .u8 0) 1 1 Tryd.underlying38 hi hz0 hz1 hz2 rfl (by decide) b o' n c ((List.range n).map fun j => .int .u8 (f j)) hs (by simp) (fun j u hu => ?_) ⟨W.heap.size, 0, none⟩ 1 1 [.int .u8 y] hx rfl (fun j u hu => ?_) (by simp [Value.oneCell']) (fun hr j hj => ?_) (by unfold maxLen; omega) (by omega) (fun hr => ?_) (fun hg v' w' ho' hgr => ?_)
  · simp only [List.getElem?_map] at hu
    obtain ⟨i, h1, rfl⟩ := Option.map_eq_some_iff.1 hu
    obtain ⟨h2, h3⟩ := List.getElem?_eq_some_iff.1 h1
    simp at h2 h3
    subst h3
    exact hC'.rd j h2
  · rcases j with _ | j
    · simp at hu; subst hu; rw [Addr.add_lit]; exact cell_blk hbox rfl
    · simp at hu
  · simp at hj; subst hj
    rw [Nat.mul_one, Nat.add_zero]
    exact hC'.there n (by omega)
  · rw [Nat.mul_one]
    have e : (W.alloc (.cells #[.int .u8 y] 5)).setCells b (o' + n) [.int .u8 y] = (W.alloc (.cells #[.int .u8 y] 5)).setCell ⟨b, o' + n, none⟩ (.int .u8 y) := rfl
    rw [e]
    have hsp : Spr (W.alloc (.cells #[.int .u8 y] 5)) _ b (o' + n) := Spr.set (Nat.le_refl _) (.int .u8 y)
    have hlt : b < (W.alloc (.cells #[.int .u8 y] 5)).heap.size := by omega
    refine h b o' c _ ⟨by omega, hC'.max, fun j hj => ?_, fun j hj => ⟨hsp.there _ hlt (hC'.there j hj).1, (hsp.frozen _ hlt).trans (hC'.there j hj).2⟩⟩ (.inl ⟨rfl, rfl⟩) (by simp; omega) ((Spr.alloc W b (o' + n) _).trans hsp)
    by_cases hjn : j = n
    · subst hjn
      obtain ⟨z, hz⟩ := Option.isSome_iff_exists.1 (hC'.there j (by omega)).1
      rw [World.cell?_setCell_same _ _ _ hz, hy]
    · rw [hsp.cell _ hlt (by omega)]
      exact hC'.rd j (by omega)
  · rcases ho'.2 with ⟨_, h0⟩ | ⟨g, cap, cur, rfl, hb', hh, hnc, hm, hs', ht⟩
    · omega
    · rw [hsz] at hb'
      have hsp : Spr (W.alloc (.cells #[.int .u8 y] 5)) w' b (o' + n) := Spr.of_below ⟨hgr.os, hgr.tape, hgr.output, hgr.size, fun k hk => hgr.block k hk (by simp)⟩
      refine h g 0 cap w' ⟨hnc, by simpa [maxLen] using hm, fun j hj => ?_, fun j hj => ?_⟩ (.inr (by omega)) (Array.getElem?_eq_some_iff.1 hh).1 ((Spr.alloc W b (o' + n) _).trans hsp)
      · rw [Nat.zero_add, ho'.cellAt j (by omega)]
        by_cases hjn : j = n
        · subst hjn
          rw [List.getElem?_append_right (by simp)]
          simp [hy]
        · rw [List.getElem?_append_left (by simp; omega)]
          simp [show j < n by omega]
      · have hj' : j < cur.size := by omega
        exact ⟨by simp [World.cell?, hh, hj'], by simp [World.frozen?, hh]⟩
end Go.Proofs.YtfddhipdedcacaaDoor
/-
  culvertlaw01.Apart: of rows in blocks of their own.
-/
namespace Go.Proofs.YtfddhipdedcacaaDoor
open Go.RowKit
set_option linter.unusedVariables false
set_option linter.unusedSimpArgs false
/-- The rows: row i lies in block b i. -/
structure Rws (W : World) (m L : Nat) (b o n c : Nat → Nat) (f : Nat → Nat → Int) : Prop where
  row : ∀ i, i < m → W.cell? ⟨L, i, none⟩ = some (.slice (some ⟨b i, o i, none⟩) (n i) (c i))
  cr : ∀ i, i < m → CR W (b i) (o i) (n i) (c i) (f i)
  lt : ∀ i, i < m → b i < W.heap.size
  sep : ∀ i j, i < m → j < m → i ≠ j → b i ≠ b j
  apart : ∀ i, i < m → b i ≠ L
theorem Rws.below {W W1 : World} {m L : Nat} {b o n c : Nat → Nat} {f : Nat → Nat → Int} (h : Rws W m L b o n c f) (hb : Below W.heap.size W W1) : Rws W1 m L b o n c f :=
  ⟨fun i hi => keepA hb (h.row i hi), fun i hi => (h.cr i hi).below (h.lt i hi) hb, fun i hi => Nat.lt_of_lt_of_le (h.lt i hi) hb.size, h.sep, h.apart⟩
theorem CR.set {W : World} {b o n c k : Nat} {f : Nat → Int} (h : CR W b o n c f) (hb : b < W.heap.size) (hk : k < n) (y : Int) : CR (W.setCell ⟨b, o + k, none⟩ (.int .u8 y)) b o n c (fun j => if j = k then y else f j) := by
  have hsp : Spr W (W.setCell ⟨b, o + k, none⟩ (.int .u8 y)) b 0 := Spr.set (Nat.zero_le _) _
  refine ⟨h.le, h.max, fun j hj => ?_, fun j hj => ⟨hsp.there _ hb (h.there j hj).1, (hsp.frozen _ hb).trans (h.there j hj).2⟩⟩
  by_cases e : j = k
  · subst e
    rw [if_pos rfl]
    exact World.cell?_setCell_same _ _ _ (h.rd j hj)
  · rw [if_neg e, World.cell?_setCell_other _ _ _ _ (by simp <;> omega)]
    exact h.rd j hj
theorem Rws.set {W : World} {m L i k : Nat} {b o n c : Nat → Nat} {f : Nat → Nat → Int} (h : Rws W m L b o n c f) (hi : i < m) (hk : k < n i) (y : Int) : Rws (W.setCell ⟨b i, o i + k, none⟩ (.int .u8 y)) m L b o n c (fun i' j => if i' = i ∧ j = k then y else f i' j) := by
  refine ⟨fun j hj => ?_, fun j hj => ?_, fun j hj => by simpa using h.lt j hj, h.sep, h.apart⟩
  · rw [World.cell?_setCell_other _ _ _ _ (by simp; intro e; exact absurd e (h.apart i hi))]; exact h.row j hj
  · by_cases e : j = i
    · subst e
      exact ((h.cr j hj).set (h.lt j hj) hk y).congr fun t ht => by simp
    · exact ((Spr.set (W := W) (b := b i) (lo := 0) (Nat.zero_le _) (.int .u8 y)).cr (h.cr j hj) (h.lt j hj) (fun e' => absurd e' (h.sep j i hj hi e))).congr fun t ht => by simp [e]
def p7 (i k : Nat) : Int := (7 * (i : Int) + k) % 256
def g11 (i k : Nat) : Int := (11 * (i : Int) + k + 3) % 256
/-- What the grown rows hold. -/
def qf (n : Nat → Nat) (i j : Nat) : Int := if j < n i then p7 i j else g11 i (j - n i)
/-- The first i grown rows, listed in block G. -/
structure Gs (W : World) (m L G i : Nat) (b n : Nat → Nat) : Prop where
  done : ∀ i', i' < i → ∃ bg og cg, W.cell? ⟨G, i', none⟩ = some (.slice (some ⟨bg, og, none⟩) (n i' + 40) cg) ∧ CR W bg og (n i' + 40) cg (qf n i') ∧ bg < W.heap.size ∧ bg ≠ G ∧ bg ≠ L ∧ ∀ j, i ≤ j → j < m → bg ≠ b j
  rest : ∀ i', i ≤ i' → i' < m → W.cell? ⟨G, i', none⟩ = some (.slice none 0 0)
  free : ∀ j, W.frozen? ⟨G, j, none⟩ = false
  lt : G < W.heap.size
theorem Gs.spr {W W1 : World} {m L G i lo : Nat} {b n : Nat → Nat} (h : Gs W m L G i b n) (hi : i < m) (hs : Spr W W1 (b i) lo) (hG : G ≠ b i) : Gs W1 m L G i b n := by
  have hc : ∀ j, W1.cell? ⟨G, j, none⟩ = W.cell? ⟨G, j, none⟩ := fun j => World.cell?_of_block (a := ⟨G, j, none⟩) (hs.block G h.lt hG)
  refine ⟨fun i' hi' => ?_, fun i' h1 h2 => (hc i').trans (h.rest i' h1 h2), fun j => (World.frozen?_of_block (a := ⟨G, j, none⟩) (hs.block G h.lt hG)).trans (h.free j), Nat.lt_of_lt_of_le h.lt hs.size⟩
  obtain ⟨bg, og, cg, h1, h2, h3, h4, h5, h6⟩ := h.done i' hi'
  exact ⟨bg, og, cg, (hc i').trans h1, hs.cr h2 h3 (fun e => absurd e (h6 i (Nat.le_refl _) hi)), Nat.lt_of_lt_of_le h3 hs.size, h4, h5, h6⟩
theorem Rws.spr {W W1 : World} {m L i : Nat} {b o n c : Nat → Nat} {f : Nat → Nat → Int} (h : Rws W m L b o n c f) (hi : i < m) (hs : Spr W W1 (b i) (o i + n i)) : Rws W1 m L b o n c f := by
  refine ⟨fun j hj => ?_, fun j hj => hs.cr (h.cr j hj) (h.lt j hj) (fun e => ?_), fun j hj => Nat.lt_of_lt_of_le (h.lt j hj) hs.size, h.sep, h.apart⟩
  · rw [World.cell?_of_block (a := ⟨L, j, none⟩) (hs.block L (World.block_lt_of_cell? W _ (h.row j hj)) (Ne.symm (h.apart i hi)))]
    exact h.row j hj
  · by_cases e' : j = i
    · rw [e']; exact Nat.le_refl _
    · exact absurd e (h.sep j i hj hi e')
/-- One more. -/
theorem Gs.put {W : World} {m L G i bg og cg : Nat} {b n : Nat → Nat} (h : Gs W m L G i b n) (hi : i < m) (hC : CR W bg og (n i + 40) cg (qf n i)) (hl : bg < W.heap.size) (hG : bg ≠ G) (hL : bg ≠ L) (hb : ∀ j, i + 1 ≤ j → j < m → bg ≠ b j) :
    Gs (W.setCell ⟨G, i, none⟩ (.slice (some ⟨bg, og, none⟩) (n i + 40) cg)) m L G (i + 1) b n := by
  have hs : Spr W (W.setCell ⟨G, i, none⟩ (.slice (some ⟨bg, og, none⟩) (n i + 40) cg)) G 0 := Spr.set (Nat.zero_le _) _
  have ho : ∀ j, j ≠ i → (W.setCell ⟨G, i, none⟩ (.slice (some ⟨bg, og, none⟩) (n i + 40) cg)).cell? ⟨G, j, none⟩ = W.cell? ⟨G, j, none⟩ := fun j hj => World.cell?_setCell_other _ _ _ _ (by simp <;> omega)
  refine ⟨fun i' hi' => ?_, fun i' h1 h2 => (ho i' (by omega)).trans (h.rest i' (by omega) h2), fun j => by simpa using h.free j, by simpa using h.lt⟩
  by_cases e : i' = i
  · subst e
    exact ⟨bg, og, cg, World.cell?_setCell_same _ _ _ (h.rest i' (Nat.le_refl _) hi), hs.cr hC hl (fun e => absurd e hG), by simpa using hl, hG, hL, hb⟩
  · obtain ⟨bg', og', cg', h1, h2, h3, h4, h5, h6⟩ := h.done i' (by omega)
    exact ⟨bg', og', cg', (ho i' e).trans h1, hs.cr h2 h3 (fun e => absurd e h4), by simpa using h3, h4, h5, fun j h7 h8 => h6 j (by omega) h8⟩
theorem Rws.other {W : World} {m L G j : Nat} {b o n c : Nat → Nat} {f : Nat → Nat → Int} (h : Rws W m L b o n c f) (hL : L ≠ G) (hG : ∀ i, i < m → b i ≠ G) (v : Value) : Rws (W.setCell ⟨G, j, none⟩ v) m L b o n c f :=
  ⟨fun i hi => by rw [World.cell?_setCell_other _ _ _ _ (by first | (simp [hL]; done) | (simp; intro e; exact absurd e hL) | (simp; intro e; exact absurd e.symm hL))]; exact h.row i hi, fun i hi => (Spr.set (W := W) (b := G) (lo := 0) (Nat.zero_le _) v).cr (h.cr i hi) (h.lt i hi) (fun e => absurd e (hG i hi)), fun i hi => by simpa using h.lt i hi, h.sep, h.apart⟩
theorem Gs.start {W : World} {m L G : Nat} {b n : Nat → Nat} (h : W.heap[G]? = some (.cells (madeCells #[.slice none 0 0] m) 38 (0, 0))) : Gs W m L G 0 b n :=
  ⟨fun i' h => absurd h (by omega), fun i' _ hi => cell_blk h (by simp [madeCells, hi, Nat.mod_one]), fun j => free_blk h, (Array.getElem?_eq_some_iff.1 h).1⟩
theorem Gs.below {W W1 : World} {m L G i : Nat} {b n : Nat → Nat} (h : Gs W m L G i b n) (hb : Below W.heap.size W W1) : Gs W1 m L G i b n := by
  have hc : ∀ j, W1.cell? ⟨G, j, none⟩ = W.cell? ⟨G, j, none⟩ := fun j => World.cell?_of_block (a := ⟨G, j, none⟩) (hb.block G h.lt)
  refine ⟨fun i' hi' => ?_, fun i' h1 h2 => (hc i').trans (h.rest i' h1 h2), fun j => (World.frozen?_of_block (a := ⟨G, j, none⟩) (hb.block G h.lt)).trans (h.free j), Nat.lt_of_lt_of_le h.lt hb.size⟩
  obtain ⟨bg, og, cg, h1, h2, h3, h4, h5, h6⟩ := h.done i' hi'
  exact ⟨bg, og, cg, (hc i').trans h1, h2.below h3 hb, Nat.lt_of_lt_of_le h3 hb.size, h4, h5, h6⟩
set_option maxRecDepth 100000 in
set_option maxHeartbeats 4000000 in
theorem apart_any {w : World} (m L base : Nat) (b o n c : Nat → Nat) (f : Nat → Nat → Int) (hR : Rws w m L b o n c f) (hm : m ≤ 100) (hn : ∀ i, i < m → n i ≤ 4294967296) (hb : ∀ i, i < m → base ≤ b i) (hw : base ≤ w.heap.size) :
    Calls Tryd.prog 29 #[.slice (some ⟨L, 0, none⟩) m m] w fun e w' => e = .returned (.bool true) ∧ Below base w w' := by
  have hmk := run_make_row' (P := Tryd.prog) 50 38 (.slice none 0 0) 24 Tryd.underlying50 (by kernel_rfl) rfl .i64 .i64 m (by omega) (by omega) w
  have HR := Lib.hid hR
  have HN := Lib.hid hn
  have HBB := Lib.hid hb
  clear hR hn hb
  go_enter Tryd.func29, Tryd.ntmps29
  go_wp2_with fail
  clear hmk
  obtain ⟨w0, hw0⟩ : ∃ w0, w0 = w.alloc (.cells (madeCells #[.slice none 0 0] m) 38) := ⟨_, rfl⟩
  have hb0 : Below w.heap.size w w0 := by rw [hw0]; exact (Below.refl _ _).alloc (Nat.le_refl _) _
  have hg0 : w0.heap[w.heap.size]? = some (.cells (madeCells #[.slice none 0 0] m) 38 (0, 0)) := by rw [hw0]; exact alloc_at _ _
  have HR0 := Lib.hid (HR.out.below hb0)
  have HG0 := Lib.hid hg0
  have HB0 := Lib.hid hb0
  rw [← hw0]
  clear hw0 hb0 hg0
  go_loopw [4] (fun ii wr => ∃ (i : Nat) (f : Nat → Nat → Int), ii = .int .i64 i ∧ i ≤ m ∧ Hid (Rws wr m L b o n c f) ∧ Hid (∀ i' j, i' < i → j < n i' → f i' j = p7 i' j) ∧ Hid (wr.heap[w.heap.size]? = some (.cells (madeCells #[.slice none 0 0] m) 38 (0, 0))) ∧ Hid (Below base w wr)) (fun ii _ => m - (intOf ii).toNat)
  case atStart => exact ⟨0, f, rfl, by omega, HR0, Lib.hid (fun i' j h => absurd h (by omega)), HG0, Lib.hid (HB0.out.mono hw)⟩
  case round =>
    obtain ⟨i, f, rfl, hi, HRr, HP, HG, HB⟩ := hrel
    by_cases hlt : i < m
    · have hd1 : decide ((i : Int) < m) = true := by simp; omega
      have hk0 : (0 : Int) ≤ (i : Int) := by omega
      have hk1 : (i : Int) < (m : Int) := by omega
      have hni := HN.out i hlt
      have hci := (HRr.out.cr i hlt).le
      have hcm := (HRr.out.cr i hlt).max
      go_wp2_with fail
      go_loopw [5] (fun kk wk => ∃ (k : Nat) (f : Nat → Nat → Int), kk = .int .i64 k ∧ k ≤ n i ∧ Hid (Rws wk m L b o n c f) ∧ Hid (∀ i' j, i' < i → j < n i' → f i' j = p7 i' j) ∧ Hid (∀ t, t < k → f i t = p7 i t) ∧ Hid (wk.heap[w.heap.size]? = some (.cells (madeCells #[.slice none 0 0] m) 38 (0, 0))) ∧ Hid (Below base w wk)) (fun kk _ => n i - (intOf kk).toNat)
      case atStart => exact ⟨0, f, rfl, by omega, HRr, HP, Lib.hid (fun t h => absurd h (by omega)), HG, HB⟩
      case round =>
        obtain ⟨k, f, rfl, hk, HRk, HPk, HQk, HGk, HBk⟩ := hrel
        have hrow := HRk.out.row i hlt
        by_cases hkn : k < n i
        · have hd2 : decide ((k : Int) < n i) = true := by simp; omega
          have hj0 : (0 : Int) ≤ (k : Int) := by omega
          have hj1 : (k : Int) < (n i : Int) := by omega
          have hcell := (HRk.out.cr i hlt).rd k hkn
          have hfr := ((HRk.out.cr i hlt).there k (by omega)).2
          have hw1 : IntKind.i64.wrap (7 * (i : Int)) = 7 * i := by rw [IntKind.wrap_i64]; omega
          have hw2 : IntKind.i64.wrap (7 * (i : Int) + k) = 7 * i + k := by rw [IntKind.wrap_i64]; omega
          go_wp2_with fail
          go_roundw
          case rel =>
            refine ⟨k + 1, fun i' j => if i' = i ∧ j = k then p7 i k else f i' j, by go_num, by omega, Lib.hid (HRk.out.set hlt hkn (p7 i k)), Lib.hid (fun i' j h1 h2 => ?_), Lib.hid (fun t ht => ?_), Lib.hid ?_, Lib.hid (HBk.out.setCell (HBB.out i hlt) _)⟩
            · show (if i' = i ∧ j = k then p7 i k else f i' j) = p7 i' j
              rw [if_neg (by omega)]; exact HPk.out i' j h1 h2
            · show (if i = i ∧ t = k then p7 i k else f i t) = p7 i t
              by_cases e : t = k
              · rw [if_pos ⟨rfl, e⟩, e]
              · rw [if_neg (by simp [e])]; exact HQk.out t (by omega)
            · rw [Below.heap_setCell _ _ _ _ (by have := HR.out.lt i hlt; simp; omega)]
              exact HGk.out
          case measure => simp [intOf]; omega
        · obtain rfl : k = n i := by omega
          have hd2 : decide (((n i : Nat) : Int) < n i) = false := by simp
          go_wp2_with fail
          go_roundw
          case rel =>
            refine ⟨i + 1, f, by go_num, by omega, HRk, Lib.hid (fun i' j h1 h2 => ?_), HGk, HBk⟩
            by_cases e : i' = i
            · subst e; exact HQk.out j h2
            · exact HPk.out i' j (by omega) h2
          case measure => simp [intOf]; omega
    · obtain rfl : m = i := by omega
      have hd1 : decide ((m : Int) < m) = false := by simp
      have HR7 := Lib.hid (show Rws wr m L b o n c p7 from ⟨HRr.out.row, fun j hj => (HRr.out.cr j hj).congr fun t ht => HP.out j t hj ht, HRr.out.lt, HRr.out.sep, HRr.out.apart⟩)
      clear HRr HP
      go_wp2_with fail
      have HS0 := Lib.hid (Gs.start (L := L) (b := b) (n := n) HG.out)
      have hLG : ∀ j, j < m → L ≠ w.heap.size := fun j hj => by have := World.block_lt_of_cell? w _ (HR.out.row j hj); simp at this; omega
      have HLG := Lib.hid hLG
      have HBG := Lib.hid (show ∀ j, j < m → b j ≠ w.heap.size from fun j hj => by have := HR.out.lt j hj; omega)
      clear HG hLG hd1 hlt hi
      go_loopw [6] (fun ii ws => ∃ i : Nat, ii = .int .i64 i ∧ i ≤ m ∧ Hid (Rws ws m L b o n c p7) ∧ Hid (Gs ws m L w.heap.size i b n) ∧ Hid (Below base w ws)) (fun ii _ => m - (intOf ii).toNat)
      case atStart => exact ⟨0, rfl, by omega, HR7, HS0, HB⟩
      case round =>
        obtain ⟨i, rfl, hi, HRi, HGi, HBi⟩ := hrel
        by_cases hlt : i < m
        · have hd1 : decide ((i : Int) < m) = true := by simp; omega
          have hk0 : (0 : Int) ≤ (i : Int) := by omega
          have hk1 : (i : Int) < (m : Int) := by omega
          have hrow := HRi.out.row i hlt
          have hni := HN.out i hlt
          go_wp2_with fail
          rename World => wi
          go_loopw [7, 8] (fun gg kk wk => ∃ (k b1 o1 c1 : Nat), gg = .slice (some ⟨b1, o1, none⟩) (n i + k) c1 ∧ kk = .int .i64 k ∧ k ≤ 40 ∧ Hid (CR wk b1 o1 (n i + k) c1 (qf n i)) ∧ Hid (b1 = b i ∧ o1 = o i ∨ wi.heap.size ≤ b1) ∧ Hid (b1 < wk.heap.size) ∧ Hid (Spr wi wk (b i) (o i + n i))) (fun _ kk _ => 40 - (intOf kk).toNat)
          case atStart => exact ⟨0, b i, o i, c i, rfl, rfl, by omega, Lib.hid ((HRi.out.cr i hlt).congr fun j hj => by unfold qf; rw [if_pos hj]), Lib.hid (.inl ⟨rfl, rfl⟩), Lib.hid (HRi.out.lt i hlt), Lib.hid (Spr.refl _ _ _)⟩
          case round =>
            obtain ⟨k, b1, o1, c1, rfl, rfl, hk, HC, HW, HLT, HSP⟩ := hrel
            by_cases hk40 : k < 40
            · have hd2 : decide ((k : Int) < 40) = true := by simp; omega
              have hw1 : IntKind.i64.wrap (11 * (i : Int)) = 11 * i := by rw [IntKind.wrap_i64]; omega
              have hw2 : IntKind.i64.wrap (11 * (i : Int) + k) = 11 * i + k := by rw [IntKind.wrap_i64]; omega
              have hw3 : IntKind.i64.wrap (11 * (i : Int) + k + 3) = 11 * i + k + 3 := by rw [IntKind.wrap_i64]; omega
              go_wp2_with (at_builtin; go_loud (refine cr_append rfl _ _ rfl b1 o1 (n i + k) c1 (qf n i) ((11 * (i : Int) + k + 3) % 256) rfl rfl HC.out HLT.out (by unfold qf g11; rw [if_neg (by omega), Nat.add_sub_cancel_left]) (by omega) ?_; intro b2 o2 c2 w2 hC2 hw2' hlt2 hsp2; have HC2 := Lib.hid hC2; have HLT2 := Lib.hid hlt2; have HW2 := Lib.hid hw2'; have HSP2 := Lib.hid hsp2; clear hC2 hw2' hlt2 hsp2))
              go_roundw
              case rel =>
                refine ⟨k + 1, b2, o2, c2, by rw [Nat.add_assoc], by go_num, by omega, Lib.hid (by rw [← Nat.add_assoc]; exact HC2.out), Lib.hid ?_, HLT2, Lib.hid ?_⟩
                · rcases HW2.out with ⟨e1, e2⟩ | e1
                  · rcases HW.out with ⟨e3, e4⟩ | e3
                    · exact .inl ⟨e1.trans e3, e2.trans e4⟩
                    · exact .inr (by omega)
                  · exact .inr (Nat.le_trans HSP.out.size e1)
                · rcases HW.out with ⟨e3, e4⟩ | e3
                  · subst e3 e4
                    exact HSP.out.trans (HSP2.out.mono (by omega))
                  · exact HSP.out.fresh HSP2.out e3
              case measure => simp [intOf]; omega
            · obtain rfl : k = 40 := by omega
              have hd2 : decide (((40 : Nat) : Int) < 40) = false := by decide
              have HRk := Lib.hid (HRi.out.spr hlt HSP.out)
              have HGk := Lib.hid (HGi.out.spr hlt HSP.out (Ne.symm (HBG.out i hlt)))
              have hgc := HGk.out.rest i (Nat.le_refl _) hlt
              have hgf := HGk.out.free i
              go_wp2_with fail
              go_roundw
              case rel =>
                have hLi : L < wi.heap.size := World.block_lt_of_cell? wi _ hrow
                have hb1 : ∀ j, j < m → j ≠ i → b1 ≠ b j := fun j hj hji => by
                  rcases HW.out with ⟨e, _⟩ | e
                  · rw [e]; exact HRi.out.sep i j hlt hj (Ne.symm hji)
                  · have := HRi.out.lt j hj; omega
                refine ⟨i + 1, by go_num, by omega, Lib.hid (HRk.out.other (HLG.out i hlt) HBG.out _), Lib.hid (HGk.out.put hlt HC.out HLT.out ?_ ?_ (fun j h1 h2 => hb1 j h2 (by omega))), Lib.hid ((HBi.out.trans (HSP.out.below (HBB.out i hlt) (Nat.le_trans hw ?_))).setCell hw _)⟩
                · rcases HW.out with ⟨e, _⟩ | e
                  · rw [e]; exact HBG.out i hlt
                  · have := HGi.out.lt; omega
                · rcases HW.out with ⟨e, _⟩ | e
                  · rw [e]; exact HRi.out.apart i hlt
                  · omega
                · exact HBi.out.size
              case measure => simp [intOf]; omega
        · obtain rfl : m = i := by omega
          have hd1 : decide ((m : Int) < m) = false := by simp
          go_wp2_with fail
          go_loopw [9] (fun ii wt => ∃ i : Nat, ii = .int .i64 i ∧ i ≤ m ∧ Hid (Rws wt m L b o n c p7) ∧ Hid (Gs wt m L w.heap.size m b n) ∧ Hid (Below base w wt)) (fun ii _ => m - (intOf ii).toNat)
          case atStart => exact ⟨0, rfl, by omega, HRi, HGi, HBi⟩
          case round =>
            obtain ⟨i, rfl, hi, HRt, HGt, HBt⟩ := hrel
            by_cases hlt : i < m
            · have hd3 : decide ((i : Int) < m) = true := by simp; omega
              have hk0 : (0 : Int) ≤ (i : Int) := by omega
              have hk1 : (i : Int) < (m : Int) := by omega
              have hni := HN.out i hlt
              go_wp2_with fail
              go_loopw [10] (fun kk wk => ∃ k : Nat, kk = .int .i64 k ∧ k ≤ n i ∧ Hid (Rws wk m L b o n c p7) ∧ Hid (Gs wk m L w.heap.size m b n) ∧ Hid (Below base w wk)) (fun kk _ => n i - (intOf kk).toNat)
              case atStart => exact ⟨0, rfl, by omega, HRt, HGt, HBt⟩
              case round =>
                obtain ⟨k, rfl, hk, HRk, HGk, HBk⟩ := hrel
                have hrow := HRk.out.row i hlt
                by_cases hkn : k < n i
                · have hd2 : decide ((k : Int) < n i) = true := by simp; omega
                  have hj0 : (0 : Int) ≤ (k : Int) := by omega
                  have hj1 : (k : Int) < (n i : Int) := by omega
                  have hcell := (HRk.out.cr i hlt).rd k hkn
                  have hw1 : IntKind.i64.wrap (7 * (i : Int)) = 7 * i := by rw [IntKind.wrap_i64]; omega
                  have hw2 : IntKind.i64.wrap (7 * (i : Int) + k) = 7 * i + k := by rw [IntKind.wrap_i64]; omega
                  have hp : p7 i k = (7 * (i : Int) + k) % 256 := rfl
                  rw [hp] at hcell
                  go_wp2_with fail
                  go_roundw
                  case rel => exact ⟨k + 1, by go_num, by omega, HRk, HGk, HBk⟩
                  case measure => simp [intOf]; omega
                · obtain rfl : k = n i := by omega
                  have hd2 : decide (((n i : Nat) : Int) < n i) = false := by simp
                  go_wp2_with fail
                  go_loopw [11] (fun kk wk => ∃ k : Nat, kk = .int .i64 k ∧ k ≤ 40 ∧ Hid (Rws wk m L b o n c p7) ∧ Hid (Gs wk m L w.heap.size m b n) ∧ Hid (Below base w wk)) (fun kk _ => 40 - (intOf kk).toNat)
                  case atStart => exact ⟨0, rfl, by omega, HRk, HGk, HBk⟩
                  case round =>
                    clear hrow HRk HGk HBk
                    obtain ⟨k, rfl, hk, HRk, HGk, HBk⟩ := hrel
                    by_cases hk40 : k < 40
                    · have hd4 : decide ((k : Int) < 40) = true := by simp; omega
                      have hrow := HRk.out.row i hlt
                      obtain ⟨bg, og, cg, hg1, hg2, -, -, -, -⟩ := HGk.out.done i hlt
                      have hw1 : IntKind.i64.wrap (11 * (i : Int)) = 11 * i := by rw [IntKind.wrap_i64]; omega
                      have hw2 : IntKind.i64.wrap (11 * (i : Int) + k) = 11 * i + k := by rw [IntKind.wrap_i64]; omega
                      have hw3 : IntKind.i64.wrap (11 * (i : Int) + k + 3) = 11 * i + k + 3 := by rw [IntKind.wrap_i64]; omega
                      have hw4 : IntKind.i64.wrap ((n i : Int) + k) = n i + k := by rw [IntKind.wrap_i64]; omega
                      have hcell := hg2.rd (n i + k) (by omega)
                      have hp : qf n i (n i + k) = (11 * (i : Int) + k + 3) % 256 := by unfold qf g11; rw [if_neg (by omega), Nat.add_sub_cancel_left]
                      rw [hp] at hcell
                      clear hp hg2
                      have hj0 : (0 : Int) ≤ (n i : Int) + k := by omega
                      have hj1 : (n i : Int) + k < ((n i + 40 : Nat) : Int) := by omega
                      have hj2 : ((n i : Int) + k).toNat = n i + k := by omega
                      go_wp2_with fail
                      go_quiet (fail)
                      go_wp2_with fail
                      go_roundw
                      case rel => exact ⟨k + 1, by go_num, by omega, Lib.hid (HRk.out.below (below_drewN (Below.refl _ _) _)), Lib.hid (HGk.out.below (below_drewN (Below.refl _ _) _)), Lib.hid (below_drewN HBk.out _)⟩
                      case measure => simp [intOf]; omega
                    · obtain rfl : k = 40 := by omega
                      have hd4 : decide (((40 : Nat) : Int) < 40) = false := by decide
                      go_wp2_with fail
                      go_roundw
                      case rel => exact ⟨i + 1, by go_num, by omega, HRk, HGk, HBk⟩
                      case measure => simp [intOf]; omega
            · obtain rfl : m = i := by omega
              have hd3 : decide ((m : Int) < m) = false := by simp
              go_wp2_with fail
              go_ret
              exact ⟨rfl, HBt.out⟩
end Go.Proofs.YtfddhipdedcacaaDoor
