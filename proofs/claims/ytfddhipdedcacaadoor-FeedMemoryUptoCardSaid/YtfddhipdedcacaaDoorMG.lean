import Derived.Test.YtfddhipdedcacaaDoorMB
import Derived.Test.YtfddhipdedcacaaDoorRows
import Derived.Deep.Matrix
import Derived.Test.YtfddhipdedcacaaDoorMC
/-
  A law's argument that is a frame by value, opened.
-/
namespace Go.Proofs.YtfddhipdedcacaaDoor
open Go.ChangeShapes Go.WideShapes Go.RowKit Go.Joins Go.Deep
set_option linter.unusedVariables false
theorem cells_u8 : Tryd.prog.cellsOf 5 = 1 := by kernel_rfl
theorem cells_u16 : Tryd.prog.cellsOf 23 = 1 := by kernel_rfl
theorem cells_u32 : Tryd.prog.cellsOf 24 = 1 := by kernel_rfl
theorem cells_hd : Tryd.prog.cellsOf 26 = 5 := by kernel_rfl
theorem cells_bs : Tryd.prog.cellsOf 38 = 1 := by kernel_rfl
theorem cells_fr : Tryd.prog.cellsOf 45 = 6 := by kernel_rfl
section
variable {H : Type} {enc : TypeId × Value → H} {w : World} {base : Nat} {spare : Nat → Bool} {held : Bool}
set_option maxRecDepth 100000 in
/-- A header's five cells. -/
theorem open_hd5 {n : Nat} {c0 c1 c2 c3 c4 : Value} {y : DataW H × List MemPlace} (hf : DataW.trod enc Tryd.prog w base spare held n 26 [c0, c1, c2, c3, c4] = some y) :
    ∃ ver ty fl st ln, c0 = .int .u8 ver ∧ c1 = .int .u8 ty ∧ c2 = .int .u16 fl ∧ c3 = .int .u32 st ∧ c4 = .int .u32 ln ∧ HdrOk ver ty fl st ln ∧ ∃ ds, y.1 = .agg ds := by
  obtain ⟨xs, m, _, hx, _, hlen, hg⟩ := DataW.trod_struct Tryd.underlying26 hf
  match xs, hlen with
  | [y0, y1, y2, y3, y4], _ =>
    have k0 := hg 0 _ rfl
    have k1 := hg 1 _ rfl
    have k2 := hg 2 _ rfl
    have k3 := hg 3 _ rfl
    have k4 := hg 4 _ rfl
    simp [cells_u8, cells_u16, cells_u32] at k0 k1 k2 k3 k4
    obtain ⟨a, e0, _, wa⟩ := DataW.trod_int Tryd.underlying5 k0
    obtain ⟨b, e1, _, wb⟩ := DataW.trod_int Tryd.underlying5 k1
    obtain ⟨c, e2, _, wc⟩ := DataW.trod_int Tryd.underlying23 k2
    obtain ⟨s, e3, _, ws⟩ := DataW.trod_int Tryd.underlying24 k3
    obtain ⟨l, e4, _, wl⟩ := DataW.trod_int Tryd.underlying24 k4
    simp at e0 e1 e2 e3 e4
    subst e0 e1 e2 e3 e4
    exact ⟨a, b, c, s, l, rfl, rfl, rfl, rfl, rfl, ⟨(bd8 wa).1, (bd8 wa).2, (bd8 wb).1, (bd8 wb).2, (bd16 wc).1, (bd16 wc).2, (bd32 ws).1, (bd32 ws).2, (bd32 wl).1, (bd32 wl).2⟩, _, congrArg (·.1) hx⟩
/-- A slice's cell of bytes. -/
theorem open_bs {n : Nat} {v : Value} {y : DataW H × List MemPlace} (hf : DataW.trod enc Tryd.prog w base (fun _ => true) held n 38 [v] = some y) :
    ∃ A k c xs, v = .slice A k c ∧ Bs w A k c xs ∧ (y.1 = .nil ∧ k = 0 ∨ ∃ es sp, y.1 = .slice es sp ∧ es.length = k) := by
  rcases open_ints Tryd.underlying38 Tryd.underlying5 (by kernel_rfl) hf with ⟨hcs, hn⟩ | ⟨x, l, c, zs, hcs, _, hl, hm, hz, hx, hcell, hwz⟩
  · obtain rfl := (List.cons.inj hcs).1
    exact ⟨none, 0, 0, [], rfl, ⟨rfl, Nat.le_refl _, by omega, (fun x hx => by cases hx), fun _ => ⟨rfl, rfl⟩, fun h => by omega⟩, .inl ⟨congrArg (·.1) hn, rfl⟩⟩
  · obtain rfl := (List.cons.inj hcs).1
    refine ⟨_, _, _, _, rfl, bytes_of hl hm (by simpa using hz) hcell hwz, .inr ⟨_, _, congrArg (·.1) hx, ?_⟩⟩
    have : l ≤ zs.length := by rw [hz]; split <;> omega
    simp [lits]; omega
set_option maxRecDepth 100000 in
theorem open_frame {b0 : Nat} {r : Reach} {v : Value} {d : DataW H} {p : List MemPlace}
    (hv : Value.okWide Tryd.prog w r b0 45 v) (h : DataW.Trod enc Tryd.prog w base (fun _ => true) held 45 v d p) :
    ∃ ver ty fl st ln A n c xs, v = .agg #[.int .u8 ver, .int .u8 ty, .int .u16 fl, .int .u32 st, .int .u32 ln, .slice A n c] ∧ Bs w A n c xs ∧ HdrOk ver ty fl st ln ∧
      ∃ dh db, d = .agg [dh, db] ∧ (∃ ds, dh = .agg ds) ∧ (db = .nil ∧ n = 0 ∨ ∃ es sp, db = .slice es sp ∧ es.length = n) := by
  obtain ⟨cs, rfl, hsz⟩ := okWide_struct Tryd.underlying45 hv
  obtain ⟨l⟩ := cs
  match l, hsz.trans cells_fr with
  | [c0, c1, c2, c3, c4, c5], _ =>
    obtain ⟨fuel, hf⟩ := h
    obtain ⟨y0, y1, n, hx, _, k0, k1⟩ := trod_struct2 Tryd.underlying45 hf
    simp [Value.cells, cells_hd, cells_bs] at k0 k1
    obtain ⟨ver, ty, fl, st, ln, rfl, rfl, rfl, rfl, rfl, hok, hds⟩ := open_hd5 k0
    obtain ⟨A, k, c, xs, rfl, hB, hdb⟩ := open_bs k1
    exact ⟨ver, ty, fl, st, ln, A, k, c, xs, rfl, hB, hok, y0.1, y1.1, congrArg (·.1) hx, hds, hdb⟩
end
/-- The payload's length is within what a reading may take. -/
theorem sized_frame {H : Type} {ts : List TypeId} {ds : List (DataW H)} {j n : Nat} {dh db : DataW H}
    (hsz : (DataW.weightsEach Tryd.prog ts ds).all (· ≤ reachBytes) = true) (ht : ts[j]? = some 45) (hd : ds[j]? = some (.agg [dh, db])) (h : db = .nil ∧ n = 0 ∨ ∃ es sp, db = .slice es sp ∧ es.length = n) : n ≤ 140737488351232 := by
  rcases h with ⟨_, rfl⟩ | ⟨es, sp, rfl, rfl⟩
  · omega
  · have hs : (DataW.weightsEach Tryd.prog [26, 38] [dh, .slice es sp]).all (· ≤ reachBytes) = true := by
      refine List.all_eq_true.2 fun x hx => List.all_eq_true.1 hsz x (DataW.weights_mem_each ht hd x ?_)
      rw [DataW.weights, Tryd.underlying45]
      exact hx
    have z := sized_slice hs (j := 1) rfl rfl Tryd.underlying38
    have hb : Tryd.prog.bytesOf 5 = 1 := by kernel_rfl
    rw [hb] at z
    simp only [reachBytes] at z
    omega
end Go.Proofs.YtfddhipdedcacaaDoor
/-
  A law's arguments that are lists of ints, of byte lists, of frames, opened; what the bulk bounds.
-/
namespace Go.Proofs.YtfddhipdedcacaaDoor
open Go.ChangeShapes Go.WideShapes Go.RowKit Go.Joins Go.Deep
set_option linter.unusedVariables false
/-! The bulk. -/
section
variable {H : Type}
theorem bulk_pos (d : DataW H) : 1 ≤ Rows.uptoBulk d := by
  cases d with
  | lit l => cases l <;> simp [Rows.uptoBulk]
  | _ => simp [Rows.uptoBulk]
theorem bulk_len : ∀ l : List (DataW H), l.length ≤ Rows.uptoBulkAll l
  | [] => by simp
  | d :: r => by
    have h1 := bulk_pos d
    have h2 := bulk_len r
    simp only [Rows.uptoBulkAll, List.length_cons]
    omega
theorem bulk_app : ∀ a b : List (DataW H), Rows.uptoBulkAll (a ++ b) = Rows.uptoBulkAll a + Rows.uptoBulkAll b
  | [], b => by simp [Rows.uptoBulkAll]
  | d :: r, b => by
    have h := bulk_app r b
    simp only [List.cons_append, Rows.uptoBulkAll]
    omega
theorem bulk_at : ∀ (l : List (DataW H)) (j : Nat) (d : DataW H), l[j]? = some d → Rows.uptoBulk d ≤ Rows.uptoBulkAll l
  | [], j, d, h => by simp at h
  | x :: r, 0, d, h => by
    simp only [List.getElem?_cons_zero, Option.some.injEq] at h
    subst h
    simp only [Rows.uptoBulkAll]
    omega
  | x :: r, j + 1, d, h => by
    simp only [List.getElem?_cons_succ] at h
    have := bulk_at r j d h
    simp only [Rows.uptoBulkAll]
    omega
/-- What a condition of bulk says of the argument at j. -/
theorem bulk_arg {ds gs : List (DataW H)} {j : Nat} {d : DataW H} (h : Rows.uptoSmall H (ds ++ gs) = true) (hj : ds[j]? = some d) : Rows.uptoBulk d ≤ 1048576 := by
  have h' : Rows.uptoBulkAll (ds ++ gs) ≤ 1048576 := of_decide_eq_true h
  rw [bulk_app] at h'
  have := bulk_at ds j d hj
  omega
/-- The sum of what stands at each index. -/
theorem bulk_range (n : Nat) (D : Nat → DataW H) (L : Nat → Nat) (h : ∀ i, i < n → L i + 1 ≤ Rows.uptoBulk (D i)) : ((List.range n).map L).sum + n ≤ Rows.uptoBulkAll ((List.range n).map D) := by
  induction n with
  | zero => simp
  | succ n ih =>
    have h1 := ih (fun i hi => h i (by omega))
    have h2 := h n (by omega)
    rw [List.range_succ, List.map_append, List.map_append, bulk_app, List.sum_append]
    simp only [List.map_cons, List.map_nil, List.sum_cons, List.sum_nil, Rows.uptoBulkAll]
    omega
end
theorem addr_zero (a : Addr) : a.add 0 = a := by simp [Addr.add]
theorem addr_plain {w : World} {x : Addr} {v : Value} (h : w.cell? x = some v) : ∃ b o, x = ⟨b, o, none⟩ := by
  obtain ⟨b, o, s⟩ := x
  cases s with
  | none => exact ⟨b, o, rfl⟩
  | some s =>
    unfold World.cell? at h
    cases e : w.heap[b]? with
    | none => simp [e] at h
    | some ob => cases ob <;> simp [e] at h
/-- A list of ints that lies in memory. -/
structure Is (w : World) (A : Option Addr) (n c : Nat) (zs : List Int) : Prop where
  len : zs.length = n
  cap : n ≤ c
  max : c ≤ 9223372036854775807
  rng : ∀ z ∈ zs, -9223372036854775808 ≤ z ∧ z ≤ 9223372036854775807
  rd : 0 < n → ∃ b o, A = some ⟨b, o, none⟩ ∧ ∀ j, j < n → w.cell? ⟨b, o + j, none⟩ = some (.int .i64 (zs.getD j 0))
theorem Is.next {w w' : World} {A : Option Addr} {n c : Nat} {zs : List Int} (h : Is w A n c zs) (hb : Below w.heap.size w w') : Is w' A n c zs :=
  ⟨h.len, h.cap, h.max, h.rng, fun hn => by
    obtain ⟨b, o, e, hr⟩ := h.rd hn
    exact ⟨b, o, e, fun j hj => (hb.cell (World.block_lt_of_cell? w _ (hr j hj))).trans (hr j hj)⟩⟩
theorem Is.rngD {w : World} {A : Option Addr} {n c : Nat} {zs : List Int} (h : Is w A n c zs) (j : Nat) : -9223372036854775808 ≤ zs.getD j 0 ∧ zs.getD j 0 ≤ 9223372036854775807 := by
  rw [List.getD_eq_getElem?_getD]
  cases hj : zs[j]? with
  | none => simp
  | some z => exact h.rng z (List.mem_of_getElem? hj)
/-- A list of byte lists that lies in memory. -/
structure Pcs (w : World) (A : Option Addr) (n c : Nat) (ps : List (List Int)) : Prop where
  len : ps.length = n
  cap : n ≤ c
  max : c ≤ 9223372036854775807
  rd : 0 < n → ∃ b o, A = some ⟨b, o, none⟩ ∧ ∀ j, j < n → ∃ A' c', w.cell? ⟨b, o + j, none⟩ = some (.slice A' (ps.getD j []).length c') ∧ Bs w A' (ps.getD j []).length c' (ps.getD j [])
theorem Pcs.next {w w' : World} {A : Option Addr} {n c : Nat} {ps : List (List Int)} (h : Pcs w A n c ps) (hb : Below w.heap.size w w') : Pcs w' A n c ps :=
  ⟨h.len, h.cap, h.max, fun hn => by
    obtain ⟨b, o, e, hr⟩ := h.rd hn
    refine ⟨b, o, e, fun j hj => ?_⟩
    obtain ⟨A', c', h1, h2⟩ := hr j hj
    exact ⟨A', c', (hb.cell (World.block_lt_of_cell? w _ h1)).trans h1, h2.next hb⟩⟩
theorem bd64 {z : Int} (h : (Lit.int .i64 z).wf = true) : -9223372036854775808 ≤ z ∧ z ≤ 9223372036854775807 := bounds_i64 h
theorem is_of {W : World} {x : Addr} {len cap : Nat} {zs : List Int} (hl : len ≤ cap) (hm : cap ≤ maxLen) (hz : zs.length = cap) (hc : ∀ i, i < zs.length → W.cell? (x.add i) = some (.int .i64 (zs.getD i 0))) (hw : ∀ n ∈ zs, (Lit.int .i64 n).wf = true) :
    Is W (some x) len cap (zs.take len) := by
  refine ⟨by simp; omega, hl, by simpa [maxLen] using hm, fun y hy => bd64 (hw y (List.mem_of_mem_take hy)), fun h0 => ?_⟩
  obtain ⟨b, o, rfl, hr⟩ := ints_at hc (by omega)
  refine ⟨b, o, rfl, fun j hj => ?_⟩
  rw [hr j (by omega)]
  simp [List.getD_eq_getElem?_getD, hj]
/-- The bulk of a list of numbers, its spare room with it. -/
theorem bulk_lits {H : Type} (k : IntKind) (l : List Int) : l.length ≤ Rows.uptoBulkAll (lits k l : List (DataW H)) := by
  have := bulk_len (lits k l : List (DataW H))
  simpa [lits] using this
section
variable {H : Type} {enc : TypeId × Value → H} {w : World} {base : Nat} {held : Bool}
set_option maxRecDepth 100000 in
theorem open_is {n : Nat} {v : Value} {y : DataW H × List MemPlace} (hf : DataW.trod enc Tryd.prog w base (fun _ => true) held n 69 [v] = some y) :
    ∃ A k c zs, v = .slice A k c ∧ Is w A k c zs ∧ k ≤ Rows.uptoBulk y.1 := by
  rcases open_ints Tryd.underlying69 Tryd.underlying3 (by kernel_rfl) hf with ⟨hcs, hn⟩ | ⟨x, l, c, zs, hcs, _, hl, hm, hz, hx, hcell, hwz⟩
  · obtain rfl := (List.cons.inj hcs).1
    exact ⟨none, 0, 0, [], rfl, ⟨rfl, Nat.le_refl _, by omega, (fun x hx => by cases hx), fun h => by omega⟩, Nat.zero_le _⟩
  · obtain rfl := (List.cons.inj hcs).1
    refine ⟨_, _, _, _, rfl, is_of hl hm (by simpa using hz) hcell hwz, ?_⟩
    subst hx
    have h1 := bulk_lits (H := H) .i64 (zs.take l)
    have : l ≤ zs.length := by rw [hz]; split <;> omega
    simp only [Rows.uptoBulk]
    simp at h1
    omega
/-- A list of bytes; its bulk. -/
theorem open_bsU {n : Nat} {v : Value} {y : DataW H × List MemPlace} (hf : DataW.trod enc Tryd.prog w base (fun _ => true) held n 38 [v] = some y) :
    ∃ A k c xs, v = .slice A k c ∧ Bs w A k c xs ∧ k + 1 ≤ Rows.uptoBulk y.1 := by
  rcases open_ints Tryd.underlying38 Tryd.underlying5 (by kernel_rfl) hf with ⟨hcs, hn⟩ | ⟨x, l, c, zs, hcs, _, hl, hm, hz, hx, hcell, hwz⟩
  · obtain rfl := (List.cons.inj hcs).1
    exact ⟨none, 0, 0, [], rfl, ⟨rfl, Nat.le_refl _, by omega, (fun x hx => by cases hx), fun _ => ⟨rfl, rfl⟩, fun h => by omega⟩, by subst hn; simp [Rows.uptoBulk]⟩
  · obtain rfl := (List.cons.inj hcs).1
    refine ⟨_, _, _, _, rfl, bytes_of hl hm (by simpa using hz) hcell hwz, ?_⟩
    subst hx
    have h1 := bulk_lits (H := H) .u8 (zs.take l)
    have : l ≤ zs.length := by rw [hz]; split <;> omega
    simp only [Rows.uptoBulk]
    simp at h1
    omega
set_option maxRecDepth 100000 in
theorem open_bytesU {r : Reach} {b0 : Nat} {v : Value} {d : DataW H} {p : List MemPlace} (hv : Value.okWide Tryd.prog w r b0 38 v) (h : DataW.Trod enc Tryd.prog w base (fun _ => true) held 38 v d p) :
    ∃ A n c xs, v = .slice A n c ∧ Bs w A n c xs ∧ n + 1 ≤ Rows.uptoBulk d := by
  obtain ⟨a, len, cap, rfl⟩ := okWide_slice Tryd.underlying38 hv
  obtain ⟨fuel, hf⟩ := h
  obtain ⟨A, k, c, xs, e, h1, h2⟩ := open_bsU hf
  exact ⟨A, k, c, xs, e, h1, h2⟩
set_option maxRecDepth 100000 in
theorem open_intsU {r : Reach} {b0 : Nat} {v : Value} {d : DataW H} {p : List MemPlace} (hv : Value.okWide Tryd.prog w r b0 69 v) (h : DataW.Trod enc Tryd.prog w base (fun _ => true) held 69 v d p) :
    ∃ A n c zs, v = .slice A n c ∧ Is w A n c zs ∧ n ≤ Rows.uptoBulk d := by
  obtain ⟨a, len, cap, rfl⟩ := okWide_slice Tryd.underlying69 hv
  obtain ⟨fuel, hf⟩ := h
  obtain ⟨A, k, c, xs, e, h1, h2⟩ := open_is hf
  exact ⟨A, k, c, xs, e, h1, h2⟩
theorem cells_is : Tryd.prog.cellsOf 69 = 1 := by kernel_rfl
theorem cells_cuts : Tryd.prog.cellsOf 71 = 2 := by kernel_rfl
set_option maxRecDepth 100000 in
theorem open_cuts {r : Reach} {b0 : Nat} {v : Value} {d : DataW H} {p : List MemPlace} (hv : Value.okWide Tryd.prog w r b0 71 v) (h : DataW.Trod enc Tryd.prog w base (fun _ => true) held 71 v d p) :
    ∃ A n c zs B m e us, v = .agg #[.slice A n c, .slice B m e] ∧ Is w A n c zs ∧ Is w B m e us ∧ n + m ≤ Rows.uptoBulk d := by
  obtain ⟨cs, rfl, hsz⟩ := okWide_struct Tryd.underlying71 hv
  obtain ⟨l⟩ := cs
  match l, hsz.trans cells_cuts with
  | [c0, c1], _ =>
    obtain ⟨fuel, hf⟩ := h
    obtain ⟨y0, y1, n, hx, _, k0, k1⟩ := trod_struct2 Tryd.underlying71 hf
    simp [Value.cells, cells_is] at k0 k1
    obtain ⟨A, k, c, zs, rfl, h1, h2⟩ := open_is k0
    obtain ⟨B, m, e, us, rfl, h3, h4⟩ := open_is k1
    refine ⟨A, k, c, zs, B, m, e, us, rfl, h1, h3, ?_⟩
    have hd : d = .agg [y0.1, y1.1] := congrArg (·.1) hx
    subst hd
    simp only [Rows.uptoBulk, Rows.uptoBulkAll]
    omega
set_option maxRecDepth 100000 in
/-- A list of byte lists: its parts, the sum of their lengths. -/
theorem open_pieces {r : Reach} {b0 : Nat} {v : Value} {d : DataW H} {p : List MemPlace} (hv : Value.okWide Tryd.prog w r b0 50 v) (h : DataW.Trod enc Tryd.prog w base (fun _ => true) held 50 v d p) :
    ∃ A n c ps, v = .slice A n c ∧ Pcs w A n c ps ∧ (ps.map List.length).sum + n ≤ Rows.uptoBulk d := by
  obtain ⟨a, len, cap, rfl⟩ := okWide_slice Tryd.underlying50 hv
  obtain ⟨fuel, hf⟩ := h
  rcases open_int_rows Tryd.underlying50 Tryd.underlying38 Tryd.underlying5 (by kernel_rfl) (by kernel_rfl) hf with ⟨hcs, _⟩ | ⟨x, l, c, A, L, C, Z, hcs, _, hl, hm, hx, hr⟩
  · simp [Value.cells] at hcs
    obtain ⟨rfl, rfl, rfl⟩ := hcs
    exact ⟨none, 0, 0, [], rfl, ⟨rfl, Nat.le_refl _, by omega, fun h => by omega⟩, by simp⟩
  · simp [Value.cells] at hcs
    obtain ⟨rfl, rfl, rfl⟩ := hcs
    have hL : ∀ r, r < len → (Z r).length = C r ∧ L r ≤ C r := fun r h => ⟨(hr r (by omega)).2.2.2.1, (hr r (by omega)).2.1⟩
    have hg : ∀ j, j < len → ((List.range len).map fun r => (Z r).take (L r)).getD j [] = (Z j).take (L j) := fun j hj => by
      rw [List.getD_eq_getElem?_getD]; simp [hj]
    refine ⟨_, _, _, (List.range len).map fun r => (Z r).take (L r), rfl, ⟨by simp, hl, by simpa [maxLen] using hm, fun hn => ?_⟩, ?_⟩
    · obtain ⟨b, o, hx0⟩ : ∃ b o, x = ⟨b, o, none⟩ := by
        have h0 := (hr 0 (by omega)).1
        rw [addr_zero] at h0
        exact addr_plain h0
      subst hx0
      refine ⟨b, o, rfl, fun j hj => ?_⟩
      obtain ⟨e1, e2, e3, e4, e5, e6, e7⟩ := hr j (by omega)
      rw [hg j hj]
      have hlj : ((Z j).take (L j)).length = L j := by rw [List.length_take]; omega
      rw [hlj]
      rw [Addr.add_lit] at e1
      refine ⟨A j, C j, e1, ?_⟩
      cases hA : A j with
      | none =>
        have hc0 := e6 hA
        have hl0 : L j = 0 := by omega
        rw [hl0, hc0]
        exact ⟨by simp, Nat.le_refl _, by omega, fun x hx => (by simp at hx), fun _ => ⟨rfl, rfl⟩, fun h => by omega⟩
      | some a' =>
        have h7 := e7 a' hA
        exact bytes_of e2 e3 e4 (fun i hi => h7.2 i (by omega)) e5
    · have hd : d = .slice ((List.range len).map fun r => intRow .u8 (A r) (L r) (Z r)) ((List.range (cap - len)).map fun j => intRow .u8 (A (len + j)) (L (len + j)) (Z (len + j))) := congrArg (·.1) hx
      subst hd
      have hb := bulk_range (H := H) len (fun r => intRow .u8 (A r) (L r) (Z r)) L (fun r hr' => by
        unfold intRow
        cases hA : A r with
        | none =>
          have := (hr r (by omega)).2.2.2.2.2.1 hA
          have := (hL r hr').2
          simp [Rows.uptoBulk]
          omega
        | some a' =>
          have h1 := bulk_lits (H := H) .u8 ((Z r).take (L r))
          rw [List.length_take] at h1
          have := hL r hr'
          simp only [Rows.uptoBulk]
          omega)
      have hs : ((List.range len).map fun r => (Z r).take (L r)).map List.length = (List.range len).map L := by
        rw [List.map_map]
        refine List.map_congr_left fun r hr' => ?_
        have := hL r (List.mem_range.1 hr')
        simp; omega
      rw [hs]
      simp only [Rows.uptoBulk]
      omega
end
end Go.Proofs.YtfddhipdedcacaaDoor
/-
  culvertref05.SameFrames: of two lists that read the same.
-/
namespace Go.Proofs.YtfddhipdedcacaaDoor
open Go.RowKit Go.Proofs.YtfddhipdedcacaaDoorW.PrintWords Go.Proofs.YtfddhipdedcacaaDoorW.PrintLast Go.Proofs.YtfddhipdedcacaaDoor.PFeedPieces
set_option linter.unusedVariables false
set_option linter.unusedSimpArgs false
theorem conv_runC {o : Oper} {a : Act} {x : Operand} {A : Option Addr} {n c : Nat} {xs : List Int} {w : World} (hop : o.op = .convert 38 9 x) (hx : a.eval x = .slice A n c) (h : (Kd.int .u8).C w A n xs) : (execOp a.eval o).run Tryd.prog w = .ok (.value (.string (strOfNums xs))) w := by
  unfold execOp
  simp only [hop, hx, Sem.run_bind, Kd.C_string (P := Tryd.prog) (A := A) (c := c) Tryd.underlying38 Tryd.underlying5 Tryd.underlying9 h, Result.andThen_ok, Sem.run_pure]
theorem C_drew {w : World} {A : Option Addr} {n : Nat} {xs : List Int} (h : (Kd.int .u8).C w A n xs) : (Kd.int .u8).C w.drew A n xs := h
/-- A list of frames that reads as fs. -/
structure RF (w : World) (A : Option Addr) (n c : Nat) (fs : List Fr) : Prop where
  rd : Kd.C kFr w A n fs
  cap : n ≤ c
  max : c ≤ 9223372036854775807
set_option maxRecDepth 100000 in
set_option maxHeartbeats 2000000 in
theorem sameFrames_any {w : World} {A B : Option Addr} {n c d : Nat} {fs : List Fr} (hn : n = fs.length) (hA : Kd.F kFr w (fun k => k < w.heap.size) A n fs) (hB : Kd.F kFr w (fun k => k < w.heap.size) B n fs) (hnm : n ≤ 9223372036854775807) :
    Calls Tryd.prog 34 #[.slice A n c, .slice B n d] w fun e w' => e = .returned (.bool true) ∧ Below w.heap.size w w' := by
  subst hn
  have HA := Lib.hid hA
  have HB := Lib.hid hB
  clear hA hB
  go_enter Tryd.func34, Tryd.ntmps34
  go_wp2_with fail
  go_loopw [5] (fun i wr => ∃ k : Nat, k ≤ fs.length ∧ i = .int .i64 k ∧ Hid (Below w.heap.size w wr)) (fun i _ => fs.length - (intOf i).toNat)
  case atStart => exact ⟨0, by omega, rfl, Lib.hid (Below.refl _ _)⟩
  case round =>
    obtain ⟨k, hk, rfl, HW⟩ := hrel
    by_cases hlt : k < fs.length
    · have hd : decide ((k : Int) < fs.length) = true := by simp; omega
      have hk0 : (0 : Int) ≤ (k : Int) := by omega
      have hk1 : (k : Int) < (fs.length : Int) := by omega
      have HAr := Lib.hid (Kd.F_below HA.out HW.out)
      have HBr := Lib.hid (Kd.F_below HB.out HW.out)
      obtain ⟨p, hp⟩ : ∃ p, p = rd_T45 fs k := ⟨_, rfl⟩
      obtain ⟨a, A5, c5, rfl, a0, a1, a2, a3, a4, a5, al, aC⟩ := at_T45 (Kd.F_now HAr.out) k hk0 hk1
      obtain ⟨b, B5, d5, rfl, b0, b1, b2, b3, b4, b5, bl, bC⟩ := at_T45 (Kd.F_now HBr.out) k hk0 hk1
      rw [← hp] at a0 a1 a2 a3 a4 a5 al aC b0 b1 b2 b3 b4 b5 bl bC
      clear hp
      simp only [Int.toNat_natCast] at a0 a1 a2 a3 a4 a5 b0 b1 b2 b3 b4 b5
      go_wp2_with fail
      refine start_ (n := 26) (S := fun w' => w'.cell? (a.add (k * 6)) = some (.int .u8 p.f0.f0) ∧ w'.cell? ⟨(a.add (k * 6)).block, (a.add (k * 6)).off + 1, none⟩ = some (.int .u8 p.f0.f1) ∧ w'.cell? ⟨(a.add (k * 6)).block, (a.add (k * 6)).off + 2, none⟩ = some (.int .u16 p.f0.f2) ∧ w'.cell? ⟨(a.add (k * 6)).block, (a.add (k * 6)).off + 3, none⟩ = some (.int .u32 p.f0.f3) ∧ w'.cell? ⟨(a.add (k * 6)).block, (a.add (k * 6)).off + 4, none⟩ = some (.int .u32 p.f0.f4) ∧ w'.cell? ⟨(a.add (k * 6)).block, (a.add (k * 6)).off + 5, none⟩ = some (.slice A5 p.f1.length c5) ∧ w'.cell? (b.add (k * 6)) = some (.int .u8 p.f0.f0) ∧ w'.cell? ⟨(b.add (k * 6)).block, (b.add (k * 6)).off + 1, none⟩ = some (.int .u8 p.f0.f1) ∧ w'.cell? ⟨(b.add (k * 6)).block, (b.add (k * 6)).off + 2, none⟩ = some (.int .u16 p.f0.f2) ∧ w'.cell? ⟨(b.add (k * 6)).block, (b.add (k * 6)).off + 3, none⟩ = some (.int .u32 p.f0.f3) ∧ w'.cell? ⟨(b.add (k * 6)).block, (b.add (k * 6)).off + 4, none⟩ = some (.int .u32 p.f0.f4) ∧ w'.cell? ⟨(b.add (k * 6)).block, (b.add (k * 6)).off + 5, none⟩ = some (.slice B5 p.f1.length d5) ∧ (Kd.int .u8).C w' A5 p.f1.length p.f1 ∧ (Kd.int .u8).C w' B5 p.f1.length p.f1) (ds := []) #[false, false, false, false, false, false, false, false, false, false, false, false, false, false, false, false, false, false, false, false, false, false, false, false, false, false] (by kernel_rfl) rfl rfl (⟨a0, a1, a2, a3, a4, a5, b0, b1, b2, b3, b4, b5, C_drew aC, C_drew bC⟩) (fun hHeld => ?_)
      refine pure_ (i := 0) (N := some 17) (v := ?_) (a' := ?_) #[true, false, false, false, false, false, false, false, false, false, false, false, false, false, false, false, false, false, false, false, false, false, false, false, false, false] rfl rfl (by kernel_rfl) (fun _ _ _ h => h) (Or.inl ⟨by rfl, ?_⟩) ?_ ?_
      rotate_left
      · intro w'
        go_simp
        with_reducible rfl
      rotate_left
      · simp only [Act.put, List.setIfInBounds_toArray, List.set_cons_zero, List.set_cons_succ, i64_w, i32_w]
        rfl
      refine pure_ (i := 1) (N := some 18) (v := ?_) (a' := ?_) #[true, true, false, false, false, false, false, false, false, false, false, false, false, false, false, false, false, false, false, false, false, false, false, false, false, false] rfl rfl (by kernel_rfl) (fun _ _ _ h => h) (Or.inl ⟨by rfl, ?_⟩) ?_ ?_
      rotate_left
      · intro w'
        go_simp
        with_reducible rfl
      rotate_left
      · simp only [Act.put, List.setIfInBounds_toArray, List.set_cons_zero, List.set_cons_succ, i64_w, i32_w]
        rfl
      refine pure_ (i := 2) (N := some 19) (v := ?_) (a' := ?_) #[true, true, true, false, false, false, false, false, false, false, false, false, false, false, false, false, false, false, false, false, false, false, false, false, false, false] rfl rfl (by kernel_rfl) (fun _ _ _ h => h) (Or.inl ⟨by rfl, ?_⟩) ?_ ?_
      rotate_left
      · intro w'
        go_simp
        with_reducible rfl
      rotate_left
      · simp only [Act.put, List.setIfInBounds_toArray, List.set_cons_zero, List.set_cons_succ, i64_w, i32_w]
        rfl
      refine pure_ (i := 3) (N := some 20) (v := ?_) (a' := ?_) #[true, true, true, true, false, false, false, false, false, false, false, false, false, false, false, false, false, false, false, false, false, false, false, false, false, false] rfl rfl (by kernel_rfl) (fun _ _ _ h => h) (Or.inl ⟨by rfl, ?_⟩) ?_ ?_
      rotate_left
      · intro w'
        go_simp
        with_reducible rfl
      rotate_left
      · simp only [Act.put, List.setIfInBounds_toArray, List.set_cons_zero, List.set_cons_succ, i64_w, i32_w]
        rfl
      refine pure_ (i := 5) (N := some 22) (v := ?_) (a' := ?_) #[true, true, true, true, false, true, false, false, false, false, false, false, false, false, false, false, false, false, false, false, false, false, false, false, false, false] rfl rfl (by kernel_rfl) (fun _ _ _ h => h) (Or.inl ⟨by rfl, ?_⟩) ?_ ?_
      rotate_left
      · intro w'
        go_simp
        with_reducible rfl
      rotate_left
      · simp only [Act.put, List.setIfInBounds_toArray, List.set_cons_zero, List.set_cons_succ, i64_w, i32_w]
        rfl
      refine pure_ (i := 6) (N := some 23) (v := ?_) (a' := ?_) #[true, true, true, true, false, true, true, false, false, false, false, false, false, false, false, false, false, false, false, false, false, false, false, false, false, false] rfl rfl (by kernel_rfl) (fun _ _ _ h => h) (Or.inl ⟨by rfl, ?_⟩) ?_ ?_
      rotate_left
      · intro w'
        go_simp
        with_reducible rfl
      rotate_left
      · simp only [Act.put, List.setIfInBounds_toArray, List.set_cons_zero, List.set_cons_succ, i64_w, i32_w]
        rfl
      refine pure_ (i := 7) (N := some 24) (v := ?_) (a' := ?_) #[true, true, true, true, false, true, true, true, false, false, false, false, false, false, false, false, false, false, false, false, false, false, false, false, false, false] rfl rfl (by kernel_rfl) (fun _ _ _ h => h) (Or.inl ⟨by rfl, ?_⟩) ?_ ?_
      rotate_left
      · intro w'
        go_simp
        with_reducible rfl
      rotate_left
      · simp only [Act.put, List.setIfInBounds_toArray, List.set_cons_zero, List.set_cons_succ, i64_w, i32_w]
        rfl
      refine pure_ (i := 8) (N := some 25) (v := ?_) (a' := ?_) #[true, true, true, true, false, true, true, true, true, false, false, false, false, false, false, false, false, false, false, false, false, false, false, false, false, false] rfl rfl (by kernel_rfl) (fun _ _ _ h => h) (Or.inl ⟨by rfl, ?_⟩) ?_ ?_
      rotate_left
      · intro w'
        go_simp
        with_reducible rfl
      rotate_left
      · simp only [Act.put, List.setIfInBounds_toArray, List.set_cons_zero, List.set_cons_succ, i64_w, i32_w]
        rfl
      refine take_ (i := 4) (N := some 21) (v := ?_) (a' := ?_) #[true, true, true, true, true, true, true, true, true, false, false, false, false, false, false, false, false, false, false, false, false, false, false, false, false, false] rfl rfl (by kernel_rfl) (fun _ _ _ h => h) (Or.inl ⟨by rfl, ?_⟩) hHeld ?_ ?_
      rotate_left
      · rintro w' ⟨s0, s1, s2, s3, s4, s5, s6, s7, s8, s9, s10, s11, s12, s13⟩
        go_simp
        with_reducible rfl
      rotate_left
      · simp only [Act.put, List.setIfInBounds_toArray, List.set_cons_zero, List.set_cons_succ, i64_w, i32_w]
        rfl
      refine take_ (i := 9) (N := some 26) (v := ?_) (a' := ?_) #[true, true, true, true, true, true, true, true, true, true, false, false, false, false, false, false, false, false, false, false, false, false, false, false, false, false] rfl rfl (by kernel_rfl) (fun _ _ _ h => h) (Or.inl ⟨by rfl, ?_⟩) hHeld ?_ ?_
      rotate_left
      · rintro w' ⟨s0, s1, s2, s3, s4, s5, s6, s7, s8, s9, s10, s11, s12, s13⟩
        go_simp
        with_reducible rfl
      rotate_left
      · simp only [Act.put, List.setIfInBounds_toArray, List.set_cons_zero, List.set_cons_succ, i64_w, i32_w]
        rfl
      refine pure_ (i := 10) (N := some 27) (v := ?_) (a' := ?_) #[true, true, true, true, true, true, true, true, true, true, true, false, false, false, false, false, false, false, false, false, false, false, false, false, false, false] rfl rfl (by kernel_rfl) (fun _ _ _ h => h) (Or.inl ⟨by rfl, ?_⟩) ?_ ?_
      rotate_left
      · intro w'
        go_simp
        with_reducible rfl
      rotate_left
      · simp only [Act.put, List.setIfInBounds_toArray, List.set_cons_zero, List.set_cons_succ, i64_w, i32_w]
        rfl
      refine pure_ (i := 11) (N := some 28) (v := ?_) (a' := ?_) #[true, true, true, true, true, true, true, true, true, true, true, true, false, false, false, false, false, false, false, false, false, false, false, false, false, false] rfl rfl (by kernel_rfl) (fun _ _ _ h => h) (Or.inl ⟨by rfl, ?_⟩) ?_ ?_
      rotate_left
      · intro w'
        go_simp
        with_reducible rfl
      rotate_left
      · simp only [Act.put, List.setIfInBounds_toArray, List.set_cons_zero, List.set_cons_succ, i64_w, i32_w]
        rfl
      refine pure_ (i := 12) (N := some 29) (v := ?_) (a' := ?_) #[true, true, true, true, true, true, true, true, true, true, true, true, true, false, false, false, false, false, false, false, false, false, false, false, false, false] rfl rfl (by kernel_rfl) (fun _ _ _ h => h) (Or.inl ⟨by rfl, ?_⟩) ?_ ?_
      rotate_left
      · intro w'
        go_simp
        with_reducible rfl
      rotate_left
      · simp only [Act.put, List.setIfInBounds_toArray, List.set_cons_zero, List.set_cons_succ, i64_w, i32_w]
        rfl
      refine pure_ (i := 13) (N := some 30) (v := ?_) (a' := ?_) #[true, true, true, true, true, true, true, true, true, true, true, true, true, true, false, false, false, false, false, false, false, false, false, false, false, false] rfl rfl (by kernel_rfl) (fun _ _ _ h => h) (Or.inl ⟨by rfl, ?_⟩) ?_ ?_
      rotate_left
      · intro w'
        go_simp
        with_reducible rfl
      rotate_left
      · simp only [Act.put, List.setIfInBounds_toArray, List.set_cons_zero, List.set_cons_succ, i64_w, i32_w]
        rfl
      refine pure_ (i := 14) (N := some 31) (v := ?_) (a' := ?_) #[true, true, true, true, true, true, true, true, true, true, true, true, true, true, true, false, false, false, false, false, false, false, false, false, false, false] rfl rfl (by kernel_rfl) (fun _ _ _ h => h) (Or.inl ⟨by rfl, ?_⟩) ?_ ?_
      rotate_left
      · intro w'
        go_simp
        with_reducible rfl
      rotate_left
      · simp only [Act.put, List.setIfInBounds_toArray, List.set_cons_zero, List.set_cons_succ, i64_w, i32_w]
        rfl
      refine pure_ (i := 15) (N := some 32) (v := ?_) (a' := ?_) #[true, true, true, true, true, true, true, true, true, true, true, true, true, true, true, true, false, false, false, false, false, false, false, false, false, false] rfl rfl (by kernel_rfl) (fun _ _ _ h => h) (Or.inl ⟨by rfl, ?_⟩) ?_ ?_
      rotate_left
      · intro w'
        go_simp
        with_reducible rfl
      rotate_left
      · simp only [Act.put, List.setIfInBounds_toArray, List.set_cons_zero, List.set_cons_succ, i64_w, i32_w]
        rfl
      refine pure_ (i := 18) (N := some 35) (v := ?_) (a' := ?_) #[true, true, true, true, true, true, true, true, true, true, true, true, true, true, true, true, false, false, true, false, false, false, false, false, false, false] rfl rfl (by kernel_rfl) (fun _ _ _ h => h) (Or.inl ⟨by rfl, ?_⟩) ?_ ?_
      rotate_left
      · intro w'
        go_simp
        with_reducible rfl
      rotate_left
      · simp only [Act.put, List.setIfInBounds_toArray, List.set_cons_zero, List.set_cons_succ, i64_w, i32_w]
        rfl
      refine pure_ (i := 19) (N := some 36) (v := ?_) (a' := ?_) #[true, true, true, true, true, true, true, true, true, true, true, true, true, true, true, true, false, false, true, true, false, false, false, false, false, false] rfl rfl (by kernel_rfl) (fun _ _ _ h => h) (Or.inl ⟨by rfl, ?_⟩) ?_ ?_
      rotate_left
      · intro w'
        go_simp
        with_reducible rfl
      rotate_left
      · simp only [Act.put, List.setIfInBounds_toArray, List.set_cons_zero, List.set_cons_succ, i64_w, i32_w]
        rfl
      refine pure_ (i := 20) (N := some 37) (v := ?_) (a' := ?_) #[true, true, true, true, true, true, true, true, true, true, true, true, true, true, true, true, false, false, true, true, true, false, false, false, false, false] rfl rfl (by kernel_rfl) (fun _ _ _ h => h) (Or.inl ⟨by rfl, ?_⟩) ?_ ?_
      rotate_left
      · intro w'
        go_simp
        with_reducible rfl
      rotate_left
      · simp only [Act.put, List.setIfInBounds_toArray, List.set_cons_zero, List.set_cons_succ, i64_w, i32_w]
        rfl
      refine pure_ (i := 21) (N := some 38) (v := ?_) (a' := ?_) #[true, true, true, true, true, true, true, true, true, true, true, true, true, true, true, true, false, false, true, true, true, true, false, false, false, false] rfl rfl (by kernel_rfl) (fun _ _ _ h => h) (Or.inl ⟨by rfl, ?_⟩) ?_ ?_
      rotate_left
      · intro w'
        go_simp
        with_reducible rfl
      rotate_left
      · simp only [Act.put, List.setIfInBounds_toArray, List.set_cons_zero, List.set_cons_succ, i64_w, i32_w]
        rfl
      refine take_ (i := 16) (N := some 33) (v := ?_) (a' := ?_) #[true, true, true, true, true, true, true, true, true, true, true, true, true, true, true, true, true, false, true, true, true, true, false, false, false, false] rfl rfl (by kernel_rfl) (fun _ _ _ h => h) (Or.inl ⟨by rfl, ?_⟩) hHeld ?_ ?_
      rotate_left
      · rintro w' ⟨s0, s1, s2, s3, s4, s5, s6, s7, s8, s9, s10, s11, s12, s13⟩
        go_simp
        with_reducible rfl
      rotate_left
      · simp only [Act.put, List.setIfInBounds_toArray, List.set_cons_zero, List.set_cons_succ, i64_w, i32_w]
        rfl
      refine take_ (i := 17) (N := some 34) (v := ?_) (a' := ?_) #[true, true, true, true, true, true, true, true, true, true, true, true, true, true, true, true, true, true, true, true, true, true, false, false, false, false] rfl rfl (by kernel_rfl) (fun _ _ _ h => h) (Or.inl ⟨by rfl, ?_⟩) hHeld ?_ ?_
      rotate_left
      · rintro w' ⟨s0, s1, s2, s3, s4, s5, s6, s7, s8, s9, s10, s11, s12, s13⟩
        refine (conv_runC (by rfl) (by rfl) s12).trans ?_
        with_reducible rfl
      rotate_left
      · simp only [Act.put, List.setIfInBounds_toArray, List.set_cons_zero, List.set_cons_succ, i64_w, i32_w]
        rfl
      refine take_ (i := 22) (N := some 39) (v := ?_) (a' := ?_) #[true, true, true, true, true, true, true, true, true, true, true, true, true, true, true, true, true, true, true, true, true, true, true, false, false, false] rfl rfl (by kernel_rfl) (fun _ _ _ h => h) (Or.inl ⟨by rfl, ?_⟩) hHeld ?_ ?_
      rotate_left
      · rintro w' ⟨s0, s1, s2, s3, s4, s5, s6, s7, s8, s9, s10, s11, s12, s13⟩
        go_simp
        with_reducible rfl
      rotate_left
      · simp only [Act.put, List.setIfInBounds_toArray, List.set_cons_zero, List.set_cons_succ, i64_w, i32_w]
        rfl
      refine take_ (i := 23) (N := some 40) (v := ?_) (a' := ?_) #[true, true, true, true, true, true, true, true, true, true, true, true, true, true, true, true, true, true, true, true, true, true, true, true, false, false] rfl rfl (by kernel_rfl) (fun _ _ _ h => h) (Or.inl ⟨by rfl, ?_⟩) hHeld ?_ ?_
      rotate_left
      · rintro w' ⟨s0, s1, s2, s3, s4, s5, s6, s7, s8, s9, s10, s11, s12, s13⟩
        refine (conv_runC (by rfl) (by rfl) s13).trans ?_
        with_reducible rfl
      rotate_left
      · simp only [Act.put, List.setIfInBounds_toArray, List.set_cons_zero, List.set_cons_succ, i64_w, i32_w]
        rfl
      refine pure_ (i := 24) (N := some 41) (v := ?_) (a' := ?_) #[true, true, true, true, true, true, true, true, true, true, true, true, true, true, true, true, true, true, true, true, true, true, true, true, true, false] rfl rfl (by kernel_rfl) (fun _ _ _ h => h) (Or.inl ⟨by rfl, ?_⟩) ?_ ?_
      rotate_left
      · intro w'
        go_simp
        with_reducible rfl
      rotate_left
      · simp only [Act.put, List.setIfInBounds_toArray, List.set_cons_zero, List.set_cons_succ, i64_w, i32_w]
        rfl
      refine pure_ (i := 25) (N := some 42) (v := ?_) (a' := ?_) #[true, true, true, true, true, true, true, true, true, true, true, true, true, true, true, true, true, true, true, true, true, true, true, true, true, true] rfl rfl (by kernel_rfl) (fun _ _ _ h => h) (Or.inl ⟨by rfl, ?_⟩) ?_ ?_
      rotate_left
      · intro w'
        go_simp
        with_reducible rfl
      rotate_left
      · simp only [Act.put, List.setIfInBounds_toArray, List.set_cons_zero, List.set_cons_succ, i64_w, i32_w]
        rfl
      refine done_ (by kernel_rfl) ?_
      have hkw : IntKind.i64.wrap ((k : Int) + 1) = k + 1 := by rw [IntKind.wrap_i64]; omega
      clear hHeld
      go_wp2_with fail
      go_roundw
      case rel => exact ⟨k + 1, by omega, by go_num, Lib.hid HW.out.drew⟩
      case measure => simp [intOf]; omega
    · have hd : decide ((k : Int) < fs.length) = false := by simp; omega
      go_wp2_with fail
      go_ret
      exact ⟨rfl, HW.out⟩
end Go.Proofs.YtfddhipdedcacaaDoor
