import Derived.Test.YtfddhipdedcacaaDoorMB
import Derived.Test.YtfddhipdedcacaaDoorRows
import Derived.Deep.Matrix
import Derived.Test.YtfddhipdedcacaaDoorMC
import Derived.Test.YtfddhipdedcacaaDoorWMore
import Derived.Deep.DeepCutAuto
/-
  A law's argument that is a frame by value, opened.
-/
namespace Go.Proofs.YtfddhipdedcacaaDoor
open Go.ChangeShapes Go.WideShapes Go.RowKit Go.Joins Go.Deep
set_option linter.unusedVariables false
theorem cells_u8 : Tryd.prog.cellsOf 5 = 1 := by kernel_rfl
theorem cells_u16 : Tryd.prog.cellsOf 23 = 1 := by kernel_rfl
theorem cells_u32 : Tryd.prog.cellsOf 24 = 1 := by kernel_rfl
theorem cells_hd : Tryd.prog.cellsOf 26 = 5 := by kernel_rfl
theorem cells_bs : Tryd.prog.cellsOf 38 = 1 := by kernel_rfl
theorem cells_fr : Tryd.prog.cellsOf 45 = 6 := by kernel_rfl
section
variable {H : Type} {enc : TypeId × Value → H} {w : World} {base : Nat} {spare : Nat → Bool} {held : Bool}
set_option maxRecDepth 100000 in
/-- A header's five cells. -/
theorem open_hd5 {n : Nat} {c0 c1 c2 c3 c4 : Value} {y : DataW H × List MemPlace} (hf : DataW.trod enc Tryd.prog w base spare held n 26 [c0, c1, c2, c3, c4] = some y) :
    ∃ ver ty fl st ln, c0 = .int .u8 ver ∧ c1 = .int .u8 ty ∧ c2 = .int .u16 fl ∧ c3 = .int .u32 st ∧ c4 = .int .u32 ln ∧ HdrOk ver ty fl st ln ∧ ∃ ds, y.1 = .agg ds := by
  obtain ⟨xs, m, _, hx, _, hlen, hg⟩ := DataW.trod_struct Tryd.underlying26 hf
  match xs, hlen with
  | [y0, y1, y2, y3, y4], _ =>
    have k0 := hg 0 _ rfl
    have k1 := hg 1 _ rfl
    have k2 := hg 2 _ rfl
    have k3 := hg 3 _ rfl
    have k4 := hg 4 _ rfl
    simp [cells_u8, cells_u16, cells_u32] at k0 k1 k2 k3 k4
    obtain ⟨a, e0, _, wa⟩ := DataW.trod_int Tryd.underlying5 k0
    obtain ⟨b, e1, _, wb⟩ := DataW.trod_int Tryd.underlying5 k1
    obtain ⟨c, e2, _, wc⟩ := DataW.trod_int Tryd.underlying23 k2
    obtain ⟨s, e3, _, ws⟩ := DataW.trod_int Tryd.underlying24 k3
    obtain ⟨l, e4, _, wl⟩ := DataW.trod_int Tryd.underlying24 k4
    simp at e0 e1 e2 e3 e4
    subst e0 e1 e2 e3 e4
    exact ⟨a, b, c, s, l, rfl, rfl, rfl, rfl, rfl, ⟨(bd8 wa).1, (bd8 wa).2, (bd8 wb).1, (bd8 wb).2, (bd16 wc).1, (bd16 wc).2, (bd32 ws).1, (bd32 ws).2, (bd32 wl).1, (bd32 wl).2⟩, _, congrArg (·.1) hx⟩
/-- A slice's cell of bytes. -/
theorem open_bs {n : Nat} {v : Value} {y : DataW H × List MemPlace} (hf : DataW.trod enc Tryd.prog w base (fun _ => true) held n 38 [v] = some y) :
    ∃ A k c xs, v = .slice A k c ∧ Bs w A k c xs ∧ (y.1 = .nil ∧ k = 0 ∨ ∃ es sp, y.1 = .slice es sp ∧ es.length = k) := by
  rcases open_ints Tryd.underlying38 Tryd.underlying5 (by kernel_rfl) hf with ⟨hcs, hn⟩ | ⟨x, l, c, zs, hcs, _, hl, hm, hz, hx, hcell, hwz⟩
  · obtain rfl := (List.cons.inj hcs).1
    exact ⟨none, 0, 0, [], rfl, ⟨rfl, Nat.le_refl _, by omega, (fun x hx => by cases hx), fun _ => ⟨rfl, rfl⟩, fun h => by omega⟩, .inl ⟨congrArg (·.1) hn, rfl⟩⟩
  · obtain rfl := (List.cons.inj hcs).1
    refine ⟨_, _, _, _, rfl, bytes_of hl hm (by simpa using hz) hcell hwz, .inr ⟨_, _, congrArg (·.1) hx, ?_⟩⟩
    have : l ≤ zs.length := by rw [hz]; split <;> omega
    simp [lits]; omega
set_option maxRecDepth 100000 in
theorem open_frame {b0 : Nat} {r : Reach} {v : Value} {d : DataW H} {p : List MemPlace}
    (hv : Value.okWide Tryd.prog w r b0 45 v) (h : DataW.Trod enc Tryd.prog w base (fun _ => true) held 45 v d p) :
    ∃ ver ty fl st ln A n c xs, v = .agg #[.int .u8 ver, .int .u8 ty, .int .u16 fl, .int .u32 st, .int .u32 ln, .slice A n c] ∧ Bs w A n c xs ∧ HdrOk ver ty fl st ln ∧
      ∃ dh db, d = .agg [dh, db] ∧ (∃ ds, dh = .agg ds) ∧ (db = .nil ∧ n = 0 ∨ ∃ es sp, db = .slice es sp ∧ es.length = n) := by
  obtain ⟨cs, rfl, hsz⟩ := okWide_struct Tryd.underlying45 hv
  obtain ⟨l⟩ := cs
  match l, hsz.trans cells_fr with
  | [c0, c1, c2, c3, c4, c5], _ =>
    obtain ⟨fuel, hf⟩ := h
    obtain ⟨y0, y1, n, hx, _, k0, k1⟩ := trod_struct2 Tryd.underlying45 hf
    simp [Value.cells, cells_hd, cells_bs] at k0 k1
    obtain ⟨ver, ty, fl, st, ln, rfl, rfl, rfl, rfl, rfl, hok, hds⟩ := open_hd5 k0
    obtain ⟨A, k, c, xs, rfl, hB, hdb⟩ := open_bs k1
    exact ⟨ver, ty, fl, st, ln, A, k, c, xs, rfl, hB, hok, y0.1, y1.1, congrArg (·.1) hx, hds, hdb⟩
end
/-- The payload's length is within what a reading may take. -/
theorem sized_frame {H : Type} {ts : List TypeId} {ds : List (DataW H)} {j n : Nat} {dh db : DataW H}
    (hsz : (DataW.weightsEach Tryd.prog ts ds).all (· ≤ reachBytes) = true) (ht : ts[j]? = some 45) (hd : ds[j]? = some (.agg [dh, db])) (h : db = .nil ∧ n = 0 ∨ ∃ es sp, db = .slice es sp ∧ es.length = n) : n ≤ 140737488351232 := by
  rcases h with ⟨_, rfl⟩ | ⟨es, sp, rfl, rfl⟩
  · omega
  · have hs : (DataW.weightsEach Tryd.prog [26, 38] [dh, .slice es sp]).all (· ≤ reachBytes) = true := by
      refine List.all_eq_true.2 fun x hx => List.all_eq_true.1 hsz x (DataW.weights_mem_each ht hd x ?_)
      rw [DataW.weights, Tryd.underlying45]
      exact hx
    have z := sized_slice hs (j := 1) rfl rfl Tryd.underlying38
    have hb : Tryd.prog.bytesOf 5 = 1 := by kernel_rfl
    rw [hb] at z
    simp only [reachBytes] at z
    omega
end Go.Proofs.YtfddhipdedcacaaDoor
/-
  A law's arguments that are lists of ints, of byte lists, of frames, opened; what the bulk bounds.
-/
namespace Go.Proofs.YtfddhipdedcacaaDoor
open Go.ChangeShapes Go.WideShapes Go.RowKit Go.Joins Go.Deep
set_option linter.unusedVariables false
/-! The bulk. -/
section
variable {H : Type}
theorem bulk_pos (d : DataW H) : 1 ≤ Rows.uptoBulk d := by
  cases d with
  | lit l => cases l <;> simp [Rows.uptoBulk]
  | _ => simp [Rows.uptoBulk]
theorem bulk_len : ∀ l : List (DataW H), l.length ≤ Rows.uptoBulkAll l
  | [] => by simp
  | d :: r => by
    have h1 := bulk_pos d
    have h2 := bulk_len r
    simp only [Rows.uptoBulkAll, List.length_cons]
    omega
theorem bulk_app : ∀ a b : List (DataW H), Rows.uptoBulkAll (a ++ b) = Rows.uptoBulkAll a + Rows.uptoBulkAll b
  | [], b => by simp [Rows.uptoBulkAll]
  | d :: r, b => by
    have h := bulk_app r b
    simp only [List.cons_append, Rows.uptoBulkAll]
    omega
theorem bulk_at : ∀ (l : List (DataW H)) (j : Nat) (d : DataW H), l[j]? = some d → Rows.uptoBulk d ≤ Rows.uptoBulkAll l
  | [], j, d, h => by simp at h
  | x :: r, 0, d, h => by
    simp only [List.getElem?_cons_zero, Option.some.injEq] at h
    subst h
    simp only [Rows.uptoBulkAll]
    omega
  | x :: r, j + 1, d, h => by
    simp only [List.getElem?_cons_succ] at h
    have := bulk_at r j d h
    simp only [Rows.uptoBulkAll]
    omega
/-- What a condition of bulk says of the argument at j. -/
theorem bulk_arg {ds gs : List (DataW H)} {j : Nat} {d : DataW H} (h : Rows.uptoSmall H (ds ++ gs) = true) (hj : ds[j]? = some d) : Rows.uptoBulk d ≤ 1048576 := by
  have h' : Rows.uptoBulkAll (ds ++ gs) ≤ 1048576 := of_decide_eq_true h
  rw [bulk_app] at h'
  have := bulk_at ds j d hj
  omega
/-- The sum of what stands at each index. -/
theorem bulk_range (n : Nat) (D : Nat → DataW H) (L : Nat → Nat) (h : ∀ i, i < n → L i + 1 ≤ Rows.uptoBulk (D i)) : ((List.range n).map L).sum + n ≤ Rows.uptoBulkAll ((List.range n).map D) := by
  induction n with
  | zero => simp
  | succ n ih =>
    have h1 := ih (fun i hi => h i (by omega))
    have h2 := h n (by omega)
    rw [List.range_succ, List.map_append, List.map_append, bulk_app, List.sum_append]
    simp only [List.map_cons, List.map_nil, List.sum_cons, List.sum_nil, Rows.uptoBulkAll]
    omega
end
theorem addr_zero (a : Addr) : a.add 0 = a := by simp [Addr.add]
theorem addr_plain {w : World} {x : Addr} {v : Value} (h : w.cell? x = some v) : ∃ b o, x = ⟨b, o, none⟩ := by
  obtain ⟨b, o, s⟩ := x
  cases s with
  | none => exact ⟨b, o, rfl⟩
  | some s =>
    unfold World.cell? at h
    cases e : w.heap[b]? with
    | none => simp [e] at h
    | some ob => cases ob <;> simp [e] at h
/-- A list of ints that lies in memory. -/
structure Is (w : World) (A : Option Addr) (n c : Nat) (zs : List Int) : Prop where
  len : zs.length = n
  cap : n ≤ c
  max : c ≤ 9223372036854775807
  rng : ∀ z ∈ zs, -9223372036854775808 ≤ z ∧ z ≤ 9223372036854775807
  rd : 0 < n → ∃ b o, A = some ⟨b, o, none⟩ ∧ ∀ j, j < n → w.cell? ⟨b, o + j, none⟩ = some (.int .i64 (zs.getD j 0))
theorem Is.next {w w' : World} {A : Option Addr} {n c : Nat} {zs : List Int} (h : Is w A n c zs) (hb : Below w.heap.size w w') : Is w' A n c zs :=
  ⟨h.len, h.cap, h.max, h.rng, fun hn => by
    obtain ⟨b, o, e, hr⟩ := h.rd hn
    exact ⟨b, o, e, fun j hj => (hb.cell (World.block_lt_of_cell? w _ (hr j hj))).trans (hr j hj)⟩⟩
theorem Is.rngD {w : World} {A : Option Addr} {n c : Nat} {zs : List Int} (h : Is w A n c zs) (j : Nat) : -9223372036854775808 ≤ zs.getD j 0 ∧ zs.getD j 0 ≤ 9223372036854775807 := by
  rw [List.getD_eq_getElem?_getD]
  cases hj : zs[j]? with
  | none => simp
  | some z => exact h.rng z (List.mem_of_getElem? hj)
/-- A list of byte lists that lies in memory. -/
structure Pcs (w : World) (A : Option Addr) (n c : Nat) (ps : List (List Int)) : Prop where
  len : ps.length = n
  cap : n ≤ c
  max : c ≤ 9223372036854775807
  rd : 0 < n → ∃ b o, A = some ⟨b, o, none⟩ ∧ ∀ j, j < n → ∃ A' c', w.cell? ⟨b, o + j, none⟩ = some (.slice A' (ps.getD j []).length c') ∧ Bs w A' (ps.getD j []).length c' (ps.getD j [])
theorem Pcs.next {w w' : World} {A : Option Addr} {n c : Nat} {ps : List (List Int)} (h : Pcs w A n c ps) (hb : Below w.heap.size w w') : Pcs w' A n c ps :=
  ⟨h.len, h.cap, h.max, fun hn => by
    obtain ⟨b, o, e, hr⟩ := h.rd hn
    refine ⟨b, o, e, fun j hj => ?_⟩
    obtain ⟨A', c', h1, h2⟩ := hr j hj
    exact ⟨A', c', (hb.cell (World.block_lt_of_cell? w _ h1)).trans h1, h2.next hb⟩⟩
theorem bd64 {z : Int} (h : (Lit.int .i64 z).wf = true) : -9223372036854775808 ≤ z ∧ z ≤ 9223372036854775807 := bounds_i64 h
theorem is_of {W : World} {x : Addr} {len cap : Nat} {zs : List Int} (hl : len ≤ cap) (hm : cap ≤ maxLen) (hz : zs.length = cap) (hc : ∀ i, i < zs.length → W.cell? (x.add i) = some (.int .i64 (zs.getD i 0))) (hw : ∀ n ∈ zs, (Lit.int .i64 n).wf = true) :
    Is W (some x) len cap (zs.take len) := by
  refine ⟨by simp; omega, hl, by simpa [maxLen] using hm, fun y hy => bd64 (hw y (List.mem_of_mem_take hy)), fun h0 => ?_⟩
  obtain ⟨b, o, rfl, hr⟩ := ints_at hc (by omega)
  refine ⟨b, o, rfl, fun j hj => ?_⟩
  rw [hr j (by omega)]
  simp [List.getD_eq_getElem?_getD, hj]
/-- The bulk of a list of numbers, its spare room with it. -/
theorem bulk_lits {H : Type} (k : IntKind) (l : List Int) : l.length ≤ Rows.uptoBulkAll (lits k l : List (DataW H)) := by
  have := bulk_len (lits k l : List (DataW H))
  simpa [lits] using this
section
variable {H : Type} {enc : TypeId × Value → H} {w : World} {base : Nat} {held : Bool}
set_option maxRecDepth 100000 in
theorem open_is {n : Nat} {v : Value} {y : DataW H × List MemPlace} (hf : DataW.trod enc Tryd.prog w base (fun _ => true) held n 69 [v] = some y) :
    ∃ A k c zs, v = .slice A k c ∧ Is w A k c zs ∧ k ≤ Rows.uptoBulk y.1 := by
  rcases open_ints Tryd.underlying69 Tryd.underlying3 (by kernel_rfl) hf with ⟨hcs, hn⟩ | ⟨x, l, c, zs, hcs, _, hl, hm, hz, hx, hcell, hwz⟩
  · obtain rfl := (List.cons.inj hcs).1
    exact ⟨none, 0, 0, [], rfl, ⟨rfl, Nat.le_refl _, by omega, (fun x hx => by cases hx), fun h => by omega⟩, Nat.zero_le _⟩
  · obtain rfl := (List.cons.inj hcs).1
    refine ⟨_, _, _, _, rfl, is_of hl hm (by simpa using hz) hcell hwz, ?_⟩
    subst hx
    have h1 := bulk_lits (H := H) .i64 (zs.take l)
    have : l ≤ zs.length := by rw [hz]; split <;> omega
    simp only [Rows.uptoBulk]
    simp at h1
    omega
/-- A list of bytes; its bulk. -/
theorem open_bsU {n : Nat} {v : Value} {y : DataW H × List MemPlace} (hf : DataW.trod enc Tryd.prog w base (fun _ => true) held n 38 [v] = some y) :
    ∃ A k c xs, v = .slice A k c ∧ Bs w A k c xs ∧ k + 1 ≤ Rows.uptoBulk y.1 := by
  rcases open_ints Tryd.underlying38 Tryd.underlying5 (by kernel_rfl) hf with ⟨hcs, hn⟩ | ⟨x, l, c, zs, hcs, _, hl, hm, hz, hx, hcell, hwz⟩
  · obtain rfl := (List.cons.inj hcs).1
    exact ⟨none, 0, 0, [], rfl, ⟨rfl, Nat.le_refl _, by omega, (fun x hx => by cases hx), fun _ => ⟨rfl, rfl⟩, fun h => by omega⟩, by subst hn; simp [Rows.uptoBulk]⟩
  · obtain rfl := (List.cons.inj hcs).1
    refine ⟨_, _, _, _, rfl, bytes_of hl hm (by simpa using hz) hcell hwz, ?_⟩
    subst hx
    have h1 := bulk_lits (H := H) .u8 (zs.take l)
    have : l ≤ zs.length := by rw [hz]; split <;> omega
    simp only [Rows.uptoBulk]
    simp at h1
    omega
set_option maxRecDepth 100000 in
theorem open_bytesU {r : Reach} {b0 : Nat} {v : Value} {d : DataW H} {p : List MemPlace} (hv : Value.okWide Tryd.prog w r b0 38 v) (h : DataW.Trod enc Tryd.prog w base (fun _ => true) held 38 v d p) :
    ∃ A n c xs, v = .slice A n c ∧ Bs w A n c xs ∧ n + 1 ≤ Rows.uptoBulk d := by
  obtain ⟨a, len, cap, rfl⟩ := okWide_slice Tryd.underlying38 hv
  obtain ⟨fuel, hf⟩ := h
  obtain ⟨A, k, c, xs, e, h1, h2⟩ := open_bsU hf
  exact ⟨A, k, c, xs, e, h1, h2⟩
set_option maxRecDepth 100000 in
theorem open_intsU {r : Reach} {b0 : Nat} {v : Value} {d : DataW H} {p : List MemPlace} (hv : Value.okWide Tryd.prog w r b0 69 v) (h : DataW.Trod enc Tryd.prog w base (fun _ => true) held 69 v d p) :
    ∃ A n c zs, v = .slice A n c ∧ Is w A n c zs ∧ n ≤ Rows.uptoBulk d := by
  obtain ⟨a, len, cap, rfl⟩ := okWide_slice Tryd.underlying69 hv
  obtain ⟨fuel, hf⟩ := h
  obtain ⟨A, k, c, xs, e, h1, h2⟩ := open_is hf
  exact ⟨A, k, c, xs, e, h1, h2⟩
theorem cells_is : Tryd.prog.cellsOf 69 = 1 := by kernel_rfl
theorem cells_cuts : Tryd.prog.cellsOf 71 = 2 := by kernel_rfl
set_option maxRecDepth 100000 in
theorem open_cuts {r : Reach} {b0 : Nat} {v : Value} {d : DataW H} {p : List MemPlace} (hv : Value.okWide Tryd.prog w r b0 71 v) (h : DataW.Trod enc Tryd.prog w base (fun _ => true) held 71 v d p) :
    ∃ A n c zs B m e us, v = .agg #[.slice A n c, .slice B m e] ∧ Is w A n c zs ∧ Is w B m e us ∧ n + m ≤ Rows.uptoBulk d := by
  obtain ⟨cs, rfl, hsz⟩ := okWide_struct Tryd.underlying71 hv
  obtain ⟨l⟩ := cs
  match l, hsz.trans cells_cuts with
  | [c0, c1], _ =>
    obtain ⟨fuel, hf⟩ := h
    obtain ⟨y0, y1, n, hx, _, k0, k1⟩ := trod_struct2 Tryd.underlying71 hf
    simp [Value.cells, cells_is] at k0 k1
    obtain ⟨A, k, c, zs, rfl, h1, h2⟩ := open_is k0
    obtain ⟨B, m, e, us, rfl, h3, h4⟩ := open_is k1
    refine ⟨A, k, c, zs, B, m, e, us, rfl, h1, h3, ?_⟩
    have hd : d = .agg [y0.1, y1.1] := congrArg (·.1) hx
    subst hd
    simp only [Rows.uptoBulk, Rows.uptoBulkAll]
    omega
set_option maxRecDepth 100000 in
/-- A list of byte lists: its parts, the sum of their lengths. -/
theorem open_pieces {r : Reach} {b0 : Nat} {v : Value} {d : DataW H} {p : List MemPlace} (hv : Value.okWide Tryd.prog w r b0 50 v) (h : DataW.Trod enc Tryd.prog w base (fun _ => true) held 50 v d p) :
    ∃ A n c ps, v = .slice A n c ∧ Pcs w A n c ps ∧ (ps.map List.length).sum + n ≤ Rows.uptoBulk d := by
  obtain ⟨a, len, cap, rfl⟩ := okWide_slice Tryd.underlying50 hv
  obtain ⟨fuel, hf⟩ := h
  rcases open_int_rows Tryd.underlying50 Tryd.underlying38 Tryd.underlying5 (by kernel_rfl) (by kernel_rfl) hf with ⟨hcs, _⟩ | ⟨x, l, c, A, L, C, Z, hcs, _, hl, hm, hx, hr⟩
  · simp [Value.cells] at hcs
    obtain ⟨rfl, rfl, rfl⟩ := hcs
    exact ⟨none, 0, 0, [], rfl, ⟨rfl, Nat.le_refl _, by omega, fun h => by omega⟩, by simp⟩
  · simp [Value.cells] at hcs
    obtain ⟨rfl, rfl, rfl⟩ := hcs
    have hL : ∀ r, r < len → (Z r).length = C r ∧ L r ≤ C r := fun r h => ⟨(hr r (by omega)).2.2.2.1, (hr r (by omega)).2.1⟩
    have hg : ∀ j, j < len → ((List.range len).map fun r => (Z r).take (L r)).getD j [] = (Z j).take (L j) := fun j hj => by
      rw [List.getD_eq_getElem?_getD]; simp [hj]
    refine ⟨_, _, _, (List.range len).map fun r => (Z r).take (L r), rfl, ⟨by simp, hl, by simpa [maxLen] using hm, fun hn => ?_⟩, ?_⟩
    · obtain ⟨b, o, hx0⟩ : ∃ b o, x = ⟨b, o, none⟩ := by
        have h0 := (hr 0 (by omega)).1
        rw [addr_zero] at h0
        exact addr_plain h0
      subst hx0
      refine ⟨b, o, rfl, fun j hj => ?_⟩
      obtain ⟨e1, e2, e3, e4, e5, e6, e7⟩ := hr j (by omega)
      rw [hg j hj]
      have hlj : ((Z j).take (L j)).length = L j := by rw [List.length_take]; omega
      rw [hlj]
      rw [Addr.add_lit] at e1
      refine ⟨A j, C j, e1, ?_⟩
      cases hA : A j with
      | none =>
        have hc0 := e6 hA
        have hl0 : L j = 0 := by omega
        rw [hl0, hc0]
        exact ⟨by simp, Nat.le_refl _, by omega, fun x hx => (by simp at hx), fun _ => ⟨rfl, rfl⟩, fun h => by omega⟩
      | some a' =>
        have h7 := e7 a' hA
        exact bytes_of e2 e3 e4 (fun i hi => h7.2 i (by omega)) e5
    · have hd : d = .slice ((List.range len).map fun r => intRow .u8 (A r) (L r) (Z r)) ((List.range (cap - len)).map fun j => intRow .u8 (A (len + j)) (L (len + j)) (Z (len + j))) := congrArg (·.1) hx
      subst hd
      have hb := bulk_range (H := H) len (fun r => intRow .u8 (A r) (L r) (Z r)) L (fun r hr' => by
        unfold intRow
        cases hA : A r with
        | none =>
          have := (hr r (by omega)).2.2.2.2.2.1 hA
          have := (hL r hr').2
          simp [Rows.uptoBulk]
          omega
        | some a' =>
          have h1 := bulk_lits (H := H) .u8 ((Z r).take (L r))
          rw [List.length_take] at h1
          have := hL r hr'
          simp only [Rows.uptoBulk]
          omega)
      have hs : ((List.range len).map fun r => (Z r).take (L r)).map List.length = (List.range len).map L := by
        rw [List.map_map]
        refine List.map_congr_left fun r hr' => ?_
        have := hL r (List.mem_range.1 hr')
        simp; omega
      rw [hs]
      simp only [Rows.uptoBulk]
      omega
end
end Go.Proofs.YtfddhipdedcacaaDoor
/-
  culvertref05.SameFrames: of two lists that read the same.
-/
namespace Go.Proofs.YtfddhipdedcacaaDoor
open Go.RowKit Go.Proofs.YtfddhipdedcacaaDoorW.PrintWords Go.Proofs.YtfddhipdedcacaaDoorW.PrintLast Go.Proofs.YtfddhipdedcacaaDoor.PFeedPieces
set_option linter.unusedVariables false
set_option linter.unusedSimpArgs false
theorem conv_runC {o : Oper} {a : Act} {x : Operand} {A : Option Addr} {n c : Nat} {xs : List Int} {w : World} (hop : o.op = .convert 38 9 x) (hx : a.eval x = .slice A n c) (h : (Kd.int .u8).C w A n xs) : (execOp a.eval o).run Tryd.prog w = .ok (.value (.string (strOfNums xs))) w := by
  unfold execOp
  simp only [hop, hx, Sem.run_bind, Kd.C_string (P := Tryd.prog) (A := A) (c := c) Tryd.underlying38 Tryd.underlying5 Tryd.underlying9 h, Result.andThen_ok, Sem.run_pure]
theorem C_drew {w : World} {A : Option Addr} {n : Nat} {xs : List Int} (h : (Kd.int .u8).C w A n xs) : (Kd.int .u8).C w.drew A n xs := h
/-- A list of frames that reads as fs. -/
structure RF (w : World) (A : Option Addr) (n c : Nat) (fs : List Fr) : Prop where
  rd : Kd.C kFr w A n fs
  cap : n ≤ c
  max : c ≤ 9223372036854775807
set_option maxRecDepth 100000 in
set_option maxHeartbeats 2000000 in
theorem sameFrames_any {w : World} {A B : Option Addr} {n c d : Nat} {fs : List Fr} (hn : n = fs.length) (hA : Kd.F kFr w (fun k => k < w.heap.size) A n fs) (hB : Kd.F kFr w (fun k => k < w.heap.size) B n fs) (hnm : n ≤ 9223372036854775807) :
    Calls Tryd.prog 34 #[.slice A n c, .slice B n d] w fun e w' => e = .returned (.bool true) ∧ Below w.heap.size w w' := by
  subst hn
  have HA := Lib.hid hA
  have HB := Lib.hid hB
  clear hA hB
  go_enter Tryd.func34, Tryd.ntmps34
  go_wp2_with fail
  go_loopw [5] (fun i wr => ∃ k : Nat, k ≤ fs.length ∧ i = .int .i64 k ∧ Hid (Below w.heap.size w wr)) (fun i _ => fs.length - (intOf i).toNat)
  case atStart => exact ⟨0, by omega, rfl, Lib.hid (Below.refl _ _)⟩
  case round =>
    obtain ⟨k, hk, rfl, HW⟩ := hrel
    by_cases hlt : k < fs.length
    · have hd : decide ((k : Int) < fs.length) = true := by simp; omega
      have hk0 : (0 : Int) ≤ (k : Int) := by omega
      have hk1 : (k : Int) < (fs.length : Int) := by omega
      have HAr := Lib.hid (Kd.F_below HA.out HW.out)
      have HBr := Lib.hid (Kd.F_below HB.out HW.out)
      obtain ⟨p, hp⟩ : ∃ p, p = rd_T45 fs k := ⟨_, rfl⟩
      obtain ⟨a, A5, c5, rfl, a0, a1, a2, a3, a4, a5, al, aC⟩ := at_T45 (Kd.F_now HAr.out) k hk0 hk1
      obtain ⟨b, B5, d5, rfl, b0, b1, b2, b3, b4, b5, bl, bC⟩ := at_T45 (Kd.F_now HBr.out) k hk0 hk1
      rw [← hp] at a0 a1 a2 a3 a4 a5 al aC b0 b1 b2 b3 b4 b5 bl bC
      clear hp
      simp only [Int.toNat_natCast] at a0 a1 a2 a3 a4 a5 b0 b1 b2 b3 b4 b5
      go_wp2_with fail
      refine start_ (n := 26) (S := fun w' => w'.cell? (a.add (k * 6)) = some (.int .u8 p.f0.f0) ∧ w'.cell? ⟨(a.add (k * 6)).block, (a.add (k * 6)).off + 1, none⟩ = some (.int .u8 p.f0.f1) ∧ w'.cell? ⟨(a.add (k * 6)).block, (a.add (k * 6)).off + 2, none⟩ = some (.int .u16 p.f0.f2) ∧ w'.cell? ⟨(a.add (k * 6)).block, (a.add (k * 6)).off + 3, none⟩ = some (.int .u32 p.f0.f3) ∧ w'.cell? ⟨(a.add (k * 6)).block, (a.add (k * 6)).off + 4, none⟩ = some (.int .u32 p.f0.f4) ∧ w'.cell? ⟨(a.add (k * 6)).block, (a.add (k * 6)).off + 5, none⟩ = some (.slice A5 p.f1.length c5) ∧ w'.cell? (b.add (k * 6)) = some (.int .u8 p.f0.f0) ∧ w'.cell? ⟨(b.add (k * 6)).block, (b.add (k * 6)).off + 1, none⟩ = some (.int .u8 p.f0.f1) ∧ w'.cell? ⟨(b.add (k * 6)).block, (b.add (k * 6)).off + 2, none⟩ = some (.int .u16 p.f0.f2) ∧ w'.cell? ⟨(b.add (k * 6)).block, (b.add (k * 6)).off + 3, none⟩ = some (.int .u32 p.f0.f3) ∧ w'.cell? ⟨(b.add (k * 6)).block, (b.add (k * 6)).off + 4, none⟩ = some (.int .u32 p.f0.f4) ∧ w'.cell? ⟨(b.add (k * 6)).block, (b.add (k * 6)).off + 5, none⟩ = some (.slice B5 p.f1.length d5) ∧ (Kd.int .u8).C w' A5 p.f1.length p.f1 ∧ (Kd.int .u8).C w' B5 p.f1.length p.f1) (ds := []) #[false, false, false, false, false, false, false, false, false, false, false, false, false, false, false, false, false, false, false, false, false, false, false, false, false, false] (by kernel_rfl) rfl rfl (⟨a0, a1, a2, a3, a4, a5, b0, b1, b2, b3, b4, b5, C_drew aC, C_drew bC⟩) (fun hHeld => ?_)
      refine pure_ (i := 0) (N := some 17) (v := ?_) (a' := ?_) #[true, false, false, false, false, false, false, false, false, false, false, false, false, false, false, false, false, false, false, false, false, false, false, false, false, false] rfl rfl (by kernel_rfl) (fun _ _ _ h => h) (Or.inl ⟨by rfl, ?_⟩) ?_ ?_
      rotate_left
      · intro w'
        go_simp
        with_reducible rfl
      rotate_left
      · simp only [Act.put, List.setIfInBounds_toArray, List.set_cons_zero, List.set_cons_succ, i64_w, i32_w]
        rfl
      refine pure_ (i := 1) (N := some 18) (v := ?_) (a' := ?_) #[true, true, false, false, false, false, false, false, false, false, false, false, false, false, false, false, false, false, false, false, false, false, false, false, false, false] rfl rfl (by kernel_rfl) (fun _ _ _ h => h) (Or.inl ⟨by rfl, ?_⟩) ?_ ?_
      rotate_left
      · intro w'
        go_simp
        with_reducible rfl
      rotate_left
      · simp only [Act.put, List.setIfInBounds_toArray, List.set_cons_zero, List.set_cons_succ, i64_w, i32_w]
        rfl
      refine pure_ (i := 2) (N := some 19) (v := ?_) (a' := ?_) #[true, true, true, false, false, false, false, false, false, false, false, false, false, false, false, false, false, false, false, false, false, false, false, false, false, false] rfl rfl (by kernel_rfl) (fun _ _ _ h => h) (Or.inl ⟨by rfl, ?_⟩) ?_ ?_
      rotate_left
      · intro w'
        go_simp
        with_reducible rfl
      rotate_left
      · simp only [Act.put, List.setIfInBounds_toArray, List.set_cons_zero, List.set_cons_succ, i64_w, i32_w]
        rfl
      refine pure_ (i := 3) (N := some 20) (v := ?_) (a' := ?_) #[true, true, true, true, false, false, false, false, false, false, false, false, false, false, false, false, false, false, false, false, false, false, false, false, false, false] rfl rfl (by kernel_rfl) (fun _ _ _ h => h) (Or.inl ⟨by rfl, ?_⟩) ?_ ?_
      rotate_left
      · intro w'
        go_simp
        with_reducible rfl
      rotate_left
      · simp only [Act.put, List.setIfInBounds_toArray, List.set_cons_zero, List.set_cons_succ, i64_w, i32_w]
        rfl
      refine pure_ (i := 5) (N := some 22) (v := ?_) (a' := ?_) #[true, true, true, true, false, true, false, false, false, false, false, false, false, false, false, false, false, false, false, false, false, false, false, false, false, false] rfl rfl (by kernel_rfl) (fun _ _ _ h => h) (Or.inl ⟨by rfl, ?_⟩) ?_ ?_
      rotate_left
      · intro w'
        go_simp
        with_reducible rfl
      rotate_left
      · simp only [Act.put, List.setIfInBounds_toArray, List.set_cons_zero, List.set_cons_succ, i64_w, i32_w]
        rfl
      refine pure_ (i := 6) (N := some 23) (v := ?_) (a' := ?_) #[true, true, true, true, false, true, true, false, false, false, false, false, false, false, false, false, false, false, false, false, false, false, false, false, false, false] rfl rfl (by kernel_rfl) (fun _ _ _ h => h) (Or.inl ⟨by rfl, ?_⟩) ?_ ?_
      rotate_left
      · intro w'
        go_simp
        with_reducible rfl
      rotate_left
      · simp only [Act.put, List.setIfInBounds_toArray, List.set_cons_zero, List.set_cons_succ, i64_w, i32_w]
        rfl
      refine pure_ (i := 7) (N := some 24) (v := ?_) (a' := ?_) #[true, true, true, true, false, true, true, true, false, false, false, false, false, false, false, false, false, false, false, false, false, false, false, false, false, false] rfl rfl (by kernel_rfl) (fun _ _ _ h => h) (Or.inl ⟨by rfl, ?_⟩) ?_ ?_
      rotate_left
      · intro w'
        go_simp
        with_reducible rfl
      rotate_left
      · simp only [Act.put, List.setIfInBounds_toArray, List.set_cons_zero, List.set_cons_succ, i64_w, i32_w]
        rfl
      refine pure_ (i := 8) (N := some 25) (v := ?_) (a' := ?_) #[true, true, true, true, false, true, true, true, true, false, false, false, false, false, false, false, false, false, false, false, false, false, false, false, false, false] rfl rfl (by kernel_rfl) (fun _ _ _ h => h) (Or.inl ⟨by rfl, ?_⟩) ?_ ?_
      rotate_left
      · intro w'
        go_simp
        with_reducible rfl
      rotate_left
      · simp only [Act.put, List.setIfInBounds_toArray, List.set_cons_zero, List.set_cons_succ, i64_w, i32_w]
        rfl
      refine take_ (i := 4) (N := some 21) (v := ?_) (a' := ?_) #[true, true, true, true, true, true, true, true, true, false, false, false, false, false, false, false, false, false, false, false, false, false, false, false, false, false] rfl rfl (by kernel_rfl) (fun _ _ _ h => h) (Or.inl ⟨by rfl, ?_⟩) hHeld ?_ ?_
      rotate_left
      · rintro w' ⟨s0, s1, s2, s3, s4, s5, s6, s7, s8, s9, s10, s11, s12, s13⟩
        go_simp
        with_reducible rfl
      rotate_left
      · simp only [Act.put, List.setIfInBounds_toArray, List.set_cons_zero, List.set_cons_succ, i64_w, i32_w]
        rfl
      refine take_ (i := 9) (N := some 26) (v := ?_) (a' := ?_) #[true, true, true, true, true, true, true, true, true, true, false, false, false, false, false, false, false, false, false, false, false, false, false, false, false, false] rfl rfl (by kernel_rfl) (fun _ _ _ h => h) (Or.inl ⟨by rfl, ?_⟩) hHeld ?_ ?_
      rotate_left
      · rintro w' ⟨s0, s1, s2, s3, s4, s5, s6, s7, s8, s9, s10, s11, s12, s13⟩
        go_simp
        with_reducible rfl
      rotate_left
      · simp only [Act.put, List.setIfInBounds_toArray, List.set_cons_zero, List.set_cons_succ, i64_w, i32_w]
        rfl
      refine pure_ (i := 10) (N := some 27) (v := ?_) (a' := ?_) #[true, true, true, true, true, true, true, true, true, true, true, false, false, false, false, false, false, false, false, false, false, false, false, false, false, false] rfl rfl (by kernel_rfl) (fun _ _ _ h => h) (Or.inl ⟨by rfl, ?_⟩) ?_ ?_
      rotate_left
      · intro w'
        go_simp
        with_reducible rfl
      rotate_left
      · simp only [Act.put, List.setIfInBounds_toArray, List.set_cons_zero, List.set_cons_succ, i64_w, i32_w]
        rfl
      refine pure_ (i := 11) (N := some 28) (v := ?_) (a' := ?_) #[true, true, true, true, true, true, true, true, true, true, true, true, false, false, false, false, false, false, false, false, false, false, false, false, false, false] rfl rfl (by kernel_rfl) (fun _ _ _ h => h) (Or.inl ⟨by rfl, ?_⟩) ?_ ?_
      rotate_left
      · intro w'
        go_simp
        with_reducible rfl
      rotate_left
      · simp only [Act.put, List.setIfInBounds_toArray, List.set_cons_zero, List.set_cons_succ, i64_w, i32_w]
        rfl
      refine pure_ (i := 12) (N := some 29) (v := ?_) (a' := ?_) #[true, true, true, true, true, true, true, true, true, true, true, true, true, false, false, false, false, false, false, false, false, false, false, false, false, false] rfl rfl (by kernel_rfl) (fun _ _ _ h => h) (Or.inl ⟨by rfl, ?_⟩) ?_ ?_
      rotate_left
      · intro w'
        go_simp
        with_reducible rfl
      rotate_left
      · simp only [Act.put, List.setIfInBounds_toArray, List.set_cons_zero, List.set_cons_succ, i64_w, i32_w]
        rfl
      refine pure_ (i := 13) (N := some 30) (v := ?_) (a' := ?_) #[true, true, true, true, true, true, true, true, true, true, true, true, true, true, false, false, false, false, false, false, false, false, false, false, false, false] rfl rfl (by kernel_rfl) (fun _ _ _ h => h) (Or.inl ⟨by rfl, ?_⟩) ?_ ?_
      rotate_left
      · intro w'
        go_simp
        with_reducible rfl
      rotate_left
      · simp only [Act.put, List.setIfInBounds_toArray, List.set_cons_zero, List.set_cons_succ, i64_w, i32_w]
        rfl
      refine pure_ (i := 14) (N := some 31) (v := ?_) (a' := ?_) #[true, true, true, true, true, true, true, true, true, true, true, true, true, true, true, false, false, false, false, false, false, false, false, false, false, false] rfl rfl (by kernel_rfl) (fun _ _ _ h => h) (Or.inl ⟨by rfl, ?_⟩) ?_ ?_
      rotate_left
      · intro w'
        go_simp
        with_reducible rfl
      rotate_left
      · simp only [Act.put, List.setIfInBounds_toArray, List.set_cons_zero, List.set_cons_succ, i64_w, i32_w]
        rfl
      refine pure_ (i := 15) (N := some 32) (v := ?_) (a' := ?_) #[true, true, true, true, true, true, true, true, true, true, true, true, true, true, true, true, false, false, false, false, false, false, false, false, false, false] rfl rfl (by kernel_rfl) (fun _ _ _ h => h) (Or.inl ⟨by rfl, ?_⟩) ?_ ?_
      rotate_left
      · intro w'
        go_simp
        with_reducible rfl
      rotate_left
      · simp only [Act.put, List.setIfInBounds_toArray, List.set_cons_zero, List.set_cons_succ, i64_w, i32_w]
        rfl
      refine pure_ (i := 18) (N := some 35) (v := ?_) (a' := ?_) #[true, true, true, true, true, true, true, true, true, true, true, true, true, true, true, true, false, false, true, false, false, false, false, false, false, false] rfl rfl (by kernel_rfl) (fun _ _ _ h => h) (Or.inl ⟨by rfl, ?_⟩) ?_ ?_
      rotate_left
      · intro w'
        go_simp
        with_reducible rfl
      rotate_left
      · simp only [Act.put, List.setIfInBounds_toArray, List.set_cons_zero, List.set_cons_succ, i64_w, i32_w]
        rfl
      refine pure_ (i := 19) (N := some 36) (v := ?_) (a' := ?_) #[true, true, true, true, true, true, true, true, true, true, true, true, true, true, true, true, false, false, true, true, false, false, false, false, false, false] rfl rfl (by kernel_rfl) (fun _ _ _ h => h) (Or.inl ⟨by rfl, ?_⟩) ?_ ?_
      rotate_left
      · intro w'
        go_simp
        with_reducible rfl
      rotate_left
      · simp only [Act.put, List.setIfInBounds_toArray, List.set_cons_zero, List.set_cons_succ, i64_w, i32_w]
        rfl
      refine pure_ (i := 20) (N := some 37) (v := ?_) (a' := ?_) #[true, true, true, true, true, true, true, true, true, true, true, true, true, true, true, true, false, false, true, true, true, false, false, false, false, false] rfl rfl (by kernel_rfl) (fun _ _ _ h => h) (Or.inl ⟨by rfl, ?_⟩) ?_ ?_
      rotate_left
      · intro w'
        go_simp
        with_reducible rfl
      rotate_left
      · simp only [Act.put, List.setIfInBounds_toArray, List.set_cons_zero, List.set_cons_succ, i64_w, i32_w]
        rfl
      refine pure_ (i := 21) (N := some 38) (v := ?_) (a' := ?_) #[true, true, true, true, true, true, true, true, true, true, true, true, true, true, true, true, false, false, true, true, true, true, false, false, false, false] rfl rfl (by kernel_rfl) (fun _ _ _ h => h) (Or.inl ⟨by rfl, ?_⟩) ?_ ?_
      rotate_left
      · intro w'
        go_simp
        with_reducible rfl
      rotate_left
      · simp only [Act.put, List.setIfInBounds_toArray, List.set_cons_zero, List.set_cons_succ, i64_w, i32_w]
        rfl
      refine take_ (i := 16) (N := some 33) (v := ?_) (a' := ?_) #[true, true, true, true, true, true, true, true, true, true, true, true, true, true, true, true, true, false, true, true, true, true, false, false, false, false] rfl rfl (by kernel_rfl) (fun _ _ _ h => h) (Or.inl ⟨by rfl, ?_⟩) hHeld ?_ ?_
      rotate_left
      · rintro w' ⟨s0, s1, s2, s3, s4, s5, s6, s7, s8, s9, s10, s11, s12, s13⟩
        go_simp
        with_reducible rfl
      rotate_left
      · simp only [Act.put, List.setIfInBounds_toArray, List.set_cons_zero, List.set_cons_succ, i64_w, i32_w]
        rfl
      refine take_ (i := 17) (N := some 34) (v := ?_) (a' := ?_) #[true, true, true, true, true, true, true, true, true, true, true, true, true, true, true, true, true, true, true, true, true, true, false, false, false, false] rfl rfl (by kernel_rfl) (fun _ _ _ h => h) (Or.inl ⟨by rfl, ?_⟩) hHeld ?_ ?_
      rotate_left
      · rintro w' ⟨s0, s1, s2, s3, s4, s5, s6, s7, s8, s9, s10, s11, s12, s13⟩
        refine (conv_runC (by rfl) (by rfl) s12).trans ?_
        with_reducible rfl
      rotate_left
      · simp only [Act.put, List.setIfInBounds_toArray, List.set_cons_zero, List.set_cons_succ, i64_w, i32_w]
        rfl
      refine take_ (i := 22) (N := some 39) (v := ?_) (a' := ?_) #[true, true, true, true, true, true, true, true, true, true, true, true, true, true, true, true, true, true, true, true, true, true, true, false, false, false] rfl rfl (by kernel_rfl) (fun _ _ _ h => h) (Or.inl ⟨by rfl, ?_⟩) hHeld ?_ ?_
      rotate_left
      · rintro w' ⟨s0, s1, s2, s3, s4, s5, s6, s7, s8, s9, s10, s11, s12, s13⟩
        go_simp
        with_reducible rfl
      rotate_left
      · simp only [Act.put, List.setIfInBounds_toArray, List.set_cons_zero, List.set_cons_succ, i64_w, i32_w]
        rfl
      refine take_ (i := 23) (N := some 40) (v := ?_) (a' := ?_) #[true, true, true, true, true, true, true, true, true, true, true, true, true, true, true, true, true, true, true, true, true, true, true, true, false, false] rfl rfl (by kernel_rfl) (fun _ _ _ h => h) (Or.inl ⟨by rfl, ?_⟩) hHeld ?_ ?_
      rotate_left
      · rintro w' ⟨s0, s1, s2, s3, s4, s5, s6, s7, s8, s9, s10, s11, s12, s13⟩
        refine (conv_runC (by rfl) (by rfl) s13).trans ?_
        with_reducible rfl
      rotate_left
      · simp only [Act.put, List.setIfInBounds_toArray, List.set_cons_zero, List.set_cons_succ, i64_w, i32_w]
        rfl
      refine pure_ (i := 24) (N := some 41) (v := ?_) (a' := ?_) #[true, true, true, true, true, true, true, true, true, true, true, true, true, true, true, true, true, true, true, true, true, true, true, true, true, false] rfl rfl (by kernel_rfl) (fun _ _ _ h => h) (Or.inl ⟨by rfl, ?_⟩) ?_ ?_
      rotate_left
      · intro w'
        go_simp
        with_reducible rfl
      rotate_left
      · simp only [Act.put, List.setIfInBounds_toArray, List.set_cons_zero, List.set_cons_succ, i64_w, i32_w]
        rfl
      refine pure_ (i := 25) (N := some 42) (v := ?_) (a' := ?_) #[true, true, true, true, true, true, true, true, true, true, true, true, true, true, true, true, true, true, true, true, true, true, true, true, true, true] rfl rfl (by kernel_rfl) (fun _ _ _ h => h) (Or.inl ⟨by rfl, ?_⟩) ?_ ?_
      rotate_left
      · intro w'
        go_simp
        with_reducible rfl
      rotate_left
      · simp only [Act.put, List.setIfInBounds_toArray, List.set_cons_zero, List.set_cons_succ, i64_w, i32_w]
        rfl
      refine done_ (by kernel_rfl) ?_
      have hkw : IntKind.i64.wrap ((k : Int) + 1) = k + 1 := by rw [IntKind.wrap_i64]; omega
      clear hHeld
      go_wp2_with fail
      go_roundw
      case rel => exact ⟨k + 1, by omega, by go_num, Lib.hid HW.out.drew⟩
      case measure => simp [intOf]; omega
    · have hd : decide ((k : Int) < fs.length) = false := by simp; omega
      go_wp2_with fail
      go_ret
      exact ⟨rfl, HW.out⟩
end Go.Proofs.YtfddhipdedcacaaDoor
/-
  law 5's gives: whatever the cuts, all is fed.
-/
namespace Go.Proofs.YtfddhipdedcacaaDoor
open Go.RowKit Go.Proofs.YtfddhipdedcacaaDoorW.PrintWords Go.Proofs.YtfddhipdedcacaaDoorW.PrintLast Go.Proofs.YtfddhipdedcacaaDoorW.PrintMore Go.Proofs.YtfddhipdedcacaaDoor.PFeedPieces
set_option linter.unusedVariables false
set_option linter.unusedSimpArgs false
attribute [local go_sem] max2_int min2_int max_two min_two
theorem Bs.midA {w : World} {A : Option Addr} {n c : Nat} {xs : List Int} (h : Bs w A n c xs) (i k : Nat) (hi : i + k ≤ n) : Bs w (if c = i then A else A.map (·.add i)) k (c - i) ((xs.drop i).take k) := (h.dropA i (by omega)).take' k (by omega)
/-- A list of frames of one's own lives through a Feed. -/
theorem Fed.keep_list {sa : Nat → Addr} {w0 w w' : World} {g b b' base : Nat} {most : Int} {xs ys : List Int} {v v' fv u : Value} {fs : List Fr} (hF : Fed sa w0 w w' g most xs ys v b fv v' b') (hN : Kd.N kFr 45 w base (fun k => g < k ∧ some k ≠ v.ownBlock) u fs) :
    Kd.N kFr 45 w' base (fun k => g < k ∧ some k ≠ v'.ownBlock) u fs := by
  have h1 := Kd.N_step (Kd.N_bound hN) (w1 := w') (fun k hk hlt => hF.kept.2 k hlt (by
    rintro (h | h)
    · have := hk.1.1; omega
    · exact hk.1.2 h))
  refine Kd.N_mono h1 (fun k hk => ⟨hk.1.1, ?_⟩)
  rcases hF.row with h | h | ⟨j, h, hj⟩
  · rw [h]; exact hk.1.2
  · rw [h]; simp
  · rw [h]
    intro e
    injection e with e
    have := hk.2
    omega
/-- append(u, frames...), behind 'at_builtin'. -/
theorem fr_append_rows {w0 W : World} {ops : Array Oper} {rest : List Oper} {o : Oper} {a : Act} {Q : Exit → Act → World → Prop} (hgd : o.guard = none) (s x : Operand)
    (ho : o.op = .call { callee := .builtin .append, args := #[s, x], argTypes := #[56, 56] })
    (u : Value) (fs ys : List Fr) (A : Option Addr) (m c : Nat) (ok okp : Nat → Prop)
    (hs : a.eval s = u) (hx : a.eval x = .slice A m c) (HO : Kd.N kFr 45 W w0.heap.size ok u fs) (HR : Kd.F kFr W okp A m ys) (hokp : ∀ k, okp k → ok k ∧ some k ≠ u.ownBlock) (hok : ∀ k, W.heap.size ≤ k → ok k) (HB : Below w0.heap.size w0 W) (hl : fs.length + m ≤ 1099511627776)
    (h : ∀ v1 w1, Kd.N kFr 45 w1 w0.heap.size ok v1 (fs ++ ys) → Below w0.heap.size w0 w1 → W.grownBy w1 u.ownBlock → wpList Tryd.prog ops Q rest (a.put o.dst v1) w1) :
    wpList Tryd.prog ops Q (o :: rest) a W :=
  Kd.N_append_rows (P := Tryd.prog) kFr (w0 := w0) (W := W) w0.heap.size hgd s x 56 45 (.agg #[(.int .u8 0), (.int .u8 0), (.int .u16 0), (.int .u32 0), (.int .u32 0), (.slice none 0 0)]) 40 ho Tryd.underlying56 fr_info rfl (by decide) (by omega) u fs ys A m c ok okp hs hx HO HR hokp hok HB HB.size (by omega)
    (fun v1 w1 h1 h2 h3 _ => h v1 w1 h1 h2 h3)
theorem framesX_len (most : Int) (xs : List Int) : (framesX most xs).length ≤ xs.length := by have := cut_len most xs; unfold framesX; omega
theorem code_mono {most : Int} {xs ys : List Int} (h : codeX most (xs ++ ys) = 0) : codeX most xs = 0 := by
  by_cases e : codeX most xs = 0
  · exact e
  · exact absurd h (by unfold codeX at e ⊢; rw [app_dead e]; exact e)
/-- Stream of a decoder's error. -/
def sSt (most : Int) (xs : List Int) : Int := if codeX most xs = 0 then 0 else stX most xs
def sOk (most : Int) (xs : List Int) : Bool := decide (codeX most xs ≠ 0)
theorem stream_dec {sa : Nat → Addr} {w0 w : World} {g b : Nat} {most : Int} {xs : List Int} {v : Value} (hT : ErT w) (h : DecV sa w0 w g most xs v b) :
    Calls Tryd.prog 40 #[errX most xs b] w fun e w' => e = .returned (.tuple #[.int .u32 (sSt most xs), .bool (sOk most xs)]) ∧ Below w.heap.size w w' := by
  unfold sSt sOk errX
  by_cases hc : codeX most xs = 0
  · rw [if_pos hc, if_pos hc, show decide (codeX most xs ≠ 0) = false by simp [hc]]
    exact stream_nil
  · rw [if_neg hc, if_neg hc, show decide (codeX most xs ≠ 0) = true by simp [hc]]
    exact stream_viol hT b _ (cell_blk (h.dead hc).2.1 rfl)
/-- What gives leaves. -/
structure Given (sa : Nat → Addr) (w w' : World) (most : Int) (xs : List Int) (fv v : Value) (b : Nat) : Prop where
  dec : DecV sa w w' w.heap.size most xs v b
  below : Below w.heap.size w w'
  frames : Kd.N kFr 45 w' w.heap.size (fun k => w.heap.size < k ∧ some k ≠ v.ownBlock) fv (framesX most xs)
set_option maxRecDepth 100000 in
theorem gives_no {sa : Nat → Addr} {w : World} (hG : Good w sa) (most : Int) (hm : most < 1 ∨ 65536 < most) (x y : Value) :
    Calls Tryd.prog 39 #[.int .i64 most, x, y] w fun e w' => e = .returned (.tuple #[.slice none 0 0, sv (sa 2), .pointer none]) ∧ Below w.heap.size w w' := by
  go_enter Tryd.func39, Tryd.ntmps39
  go_wp2_with fail
  refine (new_no hG most hm).mono ?_
  rintro e w2 ⟨rfl, hd2⟩
  have HB2 := Lib.hid (hd2.below w.heap.size)
  clear hd2
  go_wp2_with fail
  go_ret3
  exact ⟨rfl, HB2.out⟩
set_option maxRecDepth 100000 in
set_option maxHeartbeats 4000000 in
theorem gives_any {sa : Nat → Addr} {w : World} (hG : Good w sa) (hL : Lawful w) (most : Int) (A : Option Addr) (n c : Nat) (xs : List Int) (hB : Bs w A n c xs) (hn : n ≤ 1000000000) (C : Option Addr) (m d : Nat) (zs : List Int) (hZ : Is w C m d zs) (hm : m ≤ 1000000000) (m1 : 1 ≤ most) (m2 : most ≤ 65536) :
    Calls Tryd.prog 39 #[.int .i64 most, .slice A n c, .slice C m d] w fun e w' => ∃ fv v b, e = .returned (.tuple #[fv, errX most xs b, .pointer (some ⟨w.heap.size, 0, none⟩)]) ∧ Given sa w w' most xs fv v b := by
  have HG := Lib.hid hG
  have HL := Lib.hid hL
  have HBs := Lib.hid (show Up w (fun W => Bs W A n c xs) from fun W hb => hB.next hb)
  have HZs := Lib.hid (show Up w (fun W => Is W C m d zs) from fun W hb => hZ.next hb)
  have HX := Lib.hid hB.byt
  obtain rfl := hB.len
  have hcap := hB.cap
  have hmax := hB.max
  have hcapz := hZ.cap
  have hmaxz := hZ.max
  clear hG hL hB hZ
  go_enter Tryd.func39, Tryd.ntmps39
  go_wp2_with fail
  refine (new_dec sa (w0 := w) most m1 m2).mono ?_
  rintro e w2 ⟨rfl, hd2, hb2⟩
  have HD2 := Lib.hid hd2
  have HB2 := Lib.hid hb2
  clear hd2 hb2
  have g0 : w.heap.size < w2.heap.size := HD2.out.glt
  go_wp2_with fail
  go_loopw [11, 12, 13, 14] (fun fr fe at_ kk wr => ∃ (i k : Nat) (v : Value) (b : Nat), at_ = .int .i64 i ∧ kk = .int .i64 k ∧ i ≤ xs.length ∧ k ≤ m + 1 ∧ (k = m + 1 → i = xs.length) ∧ fe = errX most (xs.take i) b ∧ Hid (DecV sa w wr w.heap.size most (xs.take i) v b) ∧ Hid (Below w.heap.size w wr) ∧ Hid (Kd.N kFr 45 wr w.heap.size (fun k => w.heap.size < k ∧ some k ≠ v.ownBlock) fr (framesX most (xs.take i)))) (fun _ _ _ kk _ => m + 1 - (intOf kk).toNat)
  case atStart =>
    refine ⟨0, 0, .slice none 0 0, 0, rfl, rfl, by omega, by omega, fun h => by omega, ?_, by rw [List.take_zero]; exact HD2, HB2, ?_⟩
    · rw [List.take_zero]; unfold errX codeX; rw [cut_short (by simp)]; rfl
    · rw [List.take_zero]; unfold framesX; rw [cut_short (by simp)]; exact Lib.hid (Kd.N_nil _ _ _ _ _)
  case round =>
    obtain ⟨i, k, v, b, rfl, rfl, hi, hk, hend, rfl, HD, HB, HN⟩ := hrel
    have HXK := Lib.hid (show ∀ x ∈ xs.take i, 0 ≤ x ∧ x ≤ 255 from fun x h => HX.out x (List.mem_of_mem_take h))
    have HEND := Lib.hid hend
    clear hend
    by_cases hlt : k ≤ m
    · have hd1 : decide ((k : Int) ≤ m) = true := by simp; omega
      have hw1 : IntKind.i64.wrap ((xs.length : Int) - i) = xs.length - i := by rw [IntKind.wrap_i64]; omega
      obtain ⟨q, hq⟩ : ∃ q : Nat, xs.length = i + q := ⟨xs.length - i, by omega⟩
      have HQ := Lib.hid hq
      have hw1 : (xs.length : Int) - i = q := by omega
      clear hq
      go_upto_if 43 with fail
      go_cut [15] (fun s wx => Hid ((∃ r : Nat, s = .int .i64 r ∧ i + r ≤ xs.length ∧ (k = m → i + r = xs.length)) ∧ wr = wx))
      case first =>
        by_cases hkm : k < m
        · have hd2 : decide ((k : Int) < m) = true := by simp; omega
          have hzr := (HZs.out.at_ HB.out).rd (by omega)
          obtain ⟨bz, oz, rfl, hrd⟩ := hzr
          have hcz := hrd k hkm
          have hzb := (HZs.out.at_ HB.out).rngD k
          obtain ⟨z, hz⟩ : ∃ z, z = zs.getD k 0 := ⟨_, rfl⟩
          rw [← hz] at hcz hzb
          have hk0 : (0 : Int) ≤ (k : Int) := by omega
          have hk1 : (k : Int) < (m : Int) := by omega
          clear hz hrd hlt
          have hq0 : ¬ (q : Int) < 0 := by omega
          by_cases hz0 : z < 0
          · go_wp2_with fail
            go_meet
            exact Lib.hid ⟨⟨0, rfl, by omega, fun h => by omega⟩, rfl⟩
          · by_cases hzq : (q : Int) < z
            · go_wp2_with fail
              go_meet
              exact Lib.hid ⟨⟨q, rfl, by have := HQ.out; omega, fun h => by omega⟩, rfl⟩
            · obtain ⟨y, rfl⟩ := Int.eq_ofNat_of_zero_le (show 0 ≤ z by omega)
              go_wp2_with fail
              go_meet
              exact Lib.hid ⟨⟨y, rfl, by have := HQ.out; omega, fun h => by omega⟩, rfl⟩
        · have hd2 : decide ((k : Int) < m) = false := by simp; omega
          go_wp2_with fail
          go_meet
          exact Lib.hid ⟨⟨q, rfl, by have := HQ.out; omega, fun h => by have := HQ.out; omega⟩, rfl⟩
      case rest =>
        obtain ⟨⟨r, rfl, hir, hkr⟩, rfl⟩ := hcut.out
        have HKR := Lib.hid hkr
        have hw2 : IntKind.i64.wrap ((i : Int) + r) = i + r := by rw [IntKind.wrap_i64]; omega
        have hs1 : (i : Int) ≤ i + r := by omega
        have hs2 : (i : Int) + r ≤ c := by omega
        have hnt : ((i : Int) + r).toNat = i + r := by omega
        clear hw1 hkr hcut
        obtain ⟨ws, hzs'⟩ : ∃ ws, ws = (xs.drop i).take r := ⟨_, rfl⟩
        have HZS := Lib.hid hzs'
        have HZL := Lib.hid (show ws.length = r by rw [hzs', List.length_take, List.length_drop]; omega)
        have HZX := Lib.hid (show ∀ x ∈ ws, 0 ≤ x ∧ x ≤ 255 by rw [hzs']; exact fun x h => HX.out x (List.mem_of_mem_drop (List.mem_of_mem_take h)))
        have hmid := ((HBs.out.at_ HB.out).midA i r hir).next ((Below.refl _ _).alloc (Nat.le_refl _) (.cells #[] 5))
        rw [← hzs'] at hmid
        have HM := Lib.hid hmid
        clear hzs' hmid
        by_cases hic : i < c
        · have hne : ¬ c = i := by omega
          go_wp2_with (at_builtin; go_loud (refine append_at (w0 := w) rfl _ _ rfl (.slice (some ⟨wr.heap.size, 0, none⟩) 0 0) [] rfl (own_new wr w.heap.size [] HB.out.size (by simp)) _ _ _ ws rfl (by have hm := HM.out; first | (rw [if_neg hne] at hm; exact hm) | exact hm) (by simp <;> omega) (HB.out.alloc HB.out.size _) ?_; intro va wa hoa hba2 hga _; rw [List.nil_append] at hoa; obtain ⟨Aa, ca, rfl, hqa⟩ := Own.bs hoa HZX.out; have hbW : Below wr.heap.size wr wa := ((Below.refl _ _).alloc (Nat.le_refl _) _).grown hga (by simp) (fun k hk => by simp [Value.ownBlock] at hk; omega); have HDa := Lib.hid (HD.out.below hbW); have HNa := Lib.hid (Kd.N_below HN.out hbW); have HBa := Lib.hid hba2; have HQa := Lib.hid hqa; clear hoa hba2 hga hqa hbW))
          refine (feed_dec' HG.out HL.out w.heap.size most (xs.take i) v b HBa.out HDa.out (Nat.le_refl _) HXK.out Aa ws.length ca ws HQa.out m1 m2 (by rw [HZL.out]; have := restX_len most (xs.take i); rw [List.length_take] at this; omega)).mono ?_
          rintro e w5 ⟨f5, v5, b5, rfl, hF5⟩
          have htk : xs.take i ++ ws = xs.take (i + r) := by rw [HZS.out]; exact List.take_add.symm
          have hfx := framesX_app most (xs.take i) ws
          have hn5 := hF5.frames
          obtain ⟨A5, c5, rfl, _⟩ := Kd.N_reads hn5
          have HN5 := Lib.hid hn5
          have HK5 := Lib.hid (hF5.keep_list HNa.out)
          have hdec5 := hF5.dec
          have hsame := hF5.same
          have HB5 := Lib.hid hF5.below
          have HS5 := Lib.hid (show w.heap.size < wa.heap.size from HDa.out.glt)
          have HU5 := Lib.hid (Kd.N_lt HNa.out)
          have hlen5 := framesX_len most (xs.take (i + r))
          have hmono : codeX most (xs.take (i + r)) = 0 → codeX most (xs.take i) = 0 := fun h => code_mono (ys := ws) (by rw [htk]; exact h)
          rw [htk] at hdec5 hfx
          rw [htk]
          rw [hfx, List.length_append, List.length_take] at hlen5
          have HFX := Lib.hid hfx
          have HD5 := Lib.hid hdec5
          have HSM := Lib.hid hsame
          have HL5 := Lib.hid hlen5
          clear hF5 hn5 hdec5 hsame hfx hlen5 HDa HBa HQa HM HZX HNa htk HD HB HN HEND
          by_cases hc5 : codeX most (xs.take (i + r)) = 0
          · have he5 : errX most (xs.take (i + r)) b5 = .nilIface := by unfold errX; rw [if_pos hc5]
            have he0 : errX most (xs.take i) b = .nilIface := by unfold errX; rw [if_pos (hmono hc5)]
            rw [he5, he0]
            have HE := Lib.hid he5
            clear he5 he0 hc5 hmono
            go_wp2_with (at_builtin; go_loud (refine fr_append_rows (w0 := w) rfl _ _ rfl u11 (framesX most (xs.take i)) (newX most (xs.take i) ws) A5 _ c5 (fun k => w.heap.size < k ∧ some k ≠ v5.ownBlock) (fun k => wa.heap.size ≤ k ∧ some k ≠ v5.ownBlock) rfl rfl HK5.out (Kd.N_F HN5.out) (fun k hk => ⟨⟨by have := HS5.out; omega, hk.2⟩, fun e => by have := HU5.out k e.symm; omega⟩) (fun k hk => ⟨by have := HD5.out.glt; omega, fun e => by have := HD5.out.vlt k e.symm; omega⟩) HB5.out (by have := HL5.out; omega) ?_; intro v6 w6 hn6 hb6 hg6; have HD6 := Lib.hid (HD5.out.grown HK5.out hg6); have HN6 := Lib.hid hn6; have HB6 := Lib.hid hb6; clear hn6 hb6 hg6))
            go_roundw
            case rel => exact ⟨i + r, k + 1, v5, b5, by go_num, by go_num, by omega, by omega, fun h => HKR.out (by omega), HE.out.symm, HD6, HB6, by rw [HFX.out]; exact HN6⟩
            case measure => simp [intOf]; omega
          · have he5 : errX most (xs.take (i + r)) b5 = vv b5 0 := by unfold errX; rw [if_neg hc5]
            by_cases hc0 : codeX most (xs.take i) = 0
            · have he0 : errX most (xs.take i) b = .nilIface := by unfold errX; rw [if_pos hc0]
              rw [he5, he0]
              have HE := Lib.hid he5
              clear he5 he0 hc5 hc0 hmono
              go_wp2_with (at_builtin; go_loud (refine fr_append_rows (w0 := w) rfl _ _ rfl u11 (framesX most (xs.take i)) (newX most (xs.take i) ws) A5 _ c5 (fun k => w.heap.size < k ∧ some k ≠ v5.ownBlock) (fun k => wa.heap.size ≤ k ∧ some k ≠ v5.ownBlock) rfl rfl HK5.out (Kd.N_F HN5.out) (fun k hk => ⟨⟨by have := HS5.out; omega, hk.2⟩, fun e => by have := HU5.out k e.symm; omega⟩) (fun k hk => ⟨by have := HD5.out.glt; omega, fun e => by have := HD5.out.vlt k e.symm; omega⟩) HB5.out (by have := HL5.out; omega) ?_; intro v6 w6 hn6 hb6 hg6; have HD6 := Lib.hid (HD5.out.grown HK5.out hg6); have HN6 := Lib.hid hn6; have HB6 := Lib.hid hb6; clear hn6 hb6 hg6))
              go_roundw
              case rel => exact ⟨i + r, k + 1, v5, b5, by go_num, by go_num, by omega, by omega, fun h => HKR.out (by omega), HE.out.symm, HD6, HB6, by rw [HFX.out]; exact HN6⟩
              case measure => simp [intOf]; omega
            · obtain rfl := HSM.out hc0
              have he0 : errX most (xs.take i) b5 = vv b5 0 := by unfold errX; rw [if_neg hc0]
              rw [he5, he0]
              have HE := Lib.hid he5
              clear he5 he0 hc5 hc0 hmono
              go_wp2_with (at_builtin; go_loud (refine fr_append_rows (w0 := w) rfl _ _ rfl u11 (framesX most (xs.take i)) (newX most (xs.take i) ws) A5 _ c5 (fun k => w.heap.size < k ∧ some k ≠ v5.ownBlock) (fun k => wa.heap.size ≤ k ∧ some k ≠ v5.ownBlock) rfl rfl HK5.out (Kd.N_F HN5.out) (fun k hk => ⟨⟨by have := HS5.out; omega, hk.2⟩, fun e => by have := HU5.out k e.symm; omega⟩) (fun k hk => ⟨by have := HD5.out.glt; omega, fun e => by have := HD5.out.vlt k e.symm; omega⟩) HB5.out (by have := HL5.out; omega) ?_; intro v6 w6 hn6 hb6 hg6; have HD6 := Lib.hid (HD5.out.grown HK5.out hg6); have HN6 := Lib.hid hn6; have HB6 := Lib.hid hb6; clear hn6 hb6 hg6))
              go_roundw
              case rel => exact ⟨i + r, k + 1, v5, b5, by go_num, by go_num, by omega, by omega, fun h => HKR.out (by omega), HE.out.symm, HD6, HB6, by rw [HFX.out]; exact HN6⟩
              case measure => simp [intOf]; omega
        · obtain rfl : i = c := by omega
          obtain rfl : r = 0 := by omega
          go_wp2_with (at_builtin; go_loud (refine append_at (w0 := w) rfl _ _ rfl (.slice (some ⟨wr.heap.size, 0, none⟩) 0 0) [] rfl (own_new wr w.heap.size [] HB.out.size (by simp)) _ _ _ ws rfl (by have hm := HM.out; first | (rw [if_pos rfl, Nat.sub_self] at hm; exact hm) | exact hm) (by simp <;> omega) (HB.out.alloc HB.out.size _) ?_; intro va wa hoa hba2 hga _; rw [List.nil_append] at hoa; obtain ⟨Aa, ca, rfl, hqa⟩ := Own.bs hoa HZX.out; have hbW : Below wr.heap.size wr wa := ((Below.refl _ _).alloc (Nat.le_refl _) _).grown hga (by simp) (fun k hk => by simp [Value.ownBlock] at hk; omega); have HDa := Lib.hid (HD.out.below hbW); have HNa := Lib.hid (Kd.N_below HN.out hbW); have HBa := Lib.hid hba2; have HQa := Lib.hid hqa; clear hoa hba2 hga hqa hbW))
          refine (feed_dec' HG.out HL.out w.heap.size most (xs.take i) v b HBa.out HDa.out (Nat.le_refl _) HXK.out Aa ws.length ca ws HQa.out m1 m2 (by rw [HZL.out]; have := restX_len most (xs.take i); rw [List.length_take] at this; omega)).mono ?_
          rintro e w5 ⟨f5, v5, b5, rfl, hF5⟩
          have htk : xs.take i ++ ws = xs.take (i + 0) := by rw [HZS.out]; exact List.take_add.symm
          have hfx := framesX_app most (xs.take i) ws
          have hn5 := hF5.frames
          obtain ⟨A5, c5, rfl, _⟩ := Kd.N_reads hn5
          have HN5 := Lib.hid hn5
          have HK5 := Lib.hid (hF5.keep_list HNa.out)
          have hdec5 := hF5.dec
          have hsame := hF5.same
          have HB5 := Lib.hid hF5.below
          have HS5 := Lib.hid (show w.heap.size < wa.heap.size from HDa.out.glt)
          have HU5 := Lib.hid (Kd.N_lt HNa.out)
          have hlen5 := framesX_len most (xs.take (i + 0))
          have hmono : codeX most (xs.take (i + 0)) = 0 → codeX most (xs.take i) = 0 := fun h => code_mono (ys := ws) (by rw [htk]; exact h)
          rw [htk] at hdec5 hfx
          rw [htk]
          rw [hfx, List.length_append, List.length_take] at hlen5
          have HFX := Lib.hid hfx
          have HD5 := Lib.hid hdec5
          have HSM := Lib.hid hsame
          have HL5 := Lib.hid hlen5
          clear hF5 hn5 hdec5 hsame hfx hlen5 HDa HBa HQa HM HZX HNa htk HD HB HN HEND
          by_cases hc5 : codeX most (xs.take (i + 0)) = 0
          · have he5 : errX most (xs.take (i + 0)) b5 = .nilIface := by unfold errX; rw [if_pos hc5]
            have he0 : errX most (xs.take i) b = .nilIface := by unfold errX; rw [if_pos (hmono hc5)]
            rw [he5, he0]
            have HE := Lib.hid he5
            clear he5 he0 hc5 hmono
            go_wp2_with (at_builtin; go_loud (refine fr_append_rows (w0 := w) rfl _ _ rfl u11 (framesX most (xs.take i)) (newX most (xs.take i) ws) A5 _ c5 (fun k => w.heap.size < k ∧ some k ≠ v5.ownBlock) (fun k => wa.heap.size ≤ k ∧ some k ≠ v5.ownBlock) rfl rfl HK5.out (Kd.N_F HN5.out) (fun k hk => ⟨⟨by have := HS5.out; omega, hk.2⟩, fun e => by have := HU5.out k e.symm; omega⟩) (fun k hk => ⟨by have := HD5.out.glt; omega, fun e => by have := HD5.out.vlt k e.symm; omega⟩) HB5.out (by have := HL5.out; omega) ?_; intro v6 w6 hn6 hb6 hg6; have HD6 := Lib.hid (HD5.out.grown HK5.out hg6); have HN6 := Lib.hid hn6; have HB6 := Lib.hid hb6; clear hn6 hb6 hg6))
            go_roundw
            case rel => exact ⟨i + 0, k + 1, v5, b5, by go_num, by go_num, by omega, by omega, fun h => HKR.out (by omega), HE.out.symm, HD6, HB6, by rw [HFX.out]; exact HN6⟩
            case measure => simp [intOf]; omega
          · have he5 : errX most (xs.take (i + 0)) b5 = vv b5 0 := by unfold errX; rw [if_neg hc5]
            by_cases hc0 : codeX most (xs.take i) = 0
            · have he0 : errX most (xs.take i) b = .nilIface := by unfold errX; rw [if_pos hc0]
              rw [he5, he0]
              have HE := Lib.hid he5
              clear he5 he0 hc5 hc0 hmono
              go_wp2_with (at_builtin; go_loud (refine fr_append_rows (w0 := w) rfl _ _ rfl u11 (framesX most (xs.take i)) (newX most (xs.take i) ws) A5 _ c5 (fun k => w.heap.size < k ∧ some k ≠ v5.ownBlock) (fun k => wa.heap.size ≤ k ∧ some k ≠ v5.ownBlock) rfl rfl HK5.out (Kd.N_F HN5.out) (fun k hk => ⟨⟨by have := HS5.out; omega, hk.2⟩, fun e => by have := HU5.out k e.symm; omega⟩) (fun k hk => ⟨by have := HD5.out.glt; omega, fun e => by have := HD5.out.vlt k e.symm; omega⟩) HB5.out (by have := HL5.out; omega) ?_; intro v6 w6 hn6 hb6 hg6; have HD6 := Lib.hid (HD5.out.grown HK5.out hg6); have HN6 := Lib.hid hn6; have HB6 := Lib.hid hb6; clear hn6 hb6 hg6))
              go_roundw
              case rel => exact ⟨i + 0, k + 1, v5, b5, by go_num, by go_num, by omega, by omega, fun h => HKR.out (by omega), HE.out.symm, HD6, HB6, by rw [HFX.out]; exact HN6⟩
              case measure => simp [intOf]; omega
            · obtain rfl := HSM.out hc0
              have he0 : errX most (xs.take i) b5 = vv b5 0 := by unfold errX; rw [if_neg hc0]
              rw [he5, he0]
              have HE := Lib.hid he5
              clear he5 he0 hc5 hc0 hmono
              go_wp2_with (at_builtin; go_loud (refine fr_append_rows (w0 := w) rfl _ _ rfl u11 (framesX most (xs.take i)) (newX most (xs.take i) ws) A5 _ c5 (fun k => w.heap.size < k ∧ some k ≠ v5.ownBlock) (fun k => wa.heap.size ≤ k ∧ some k ≠ v5.ownBlock) rfl rfl HK5.out (Kd.N_F HN5.out) (fun k hk => ⟨⟨by have := HS5.out; omega, hk.2⟩, fun e => by have := HU5.out k e.symm; omega⟩) (fun k hk => ⟨by have := HD5.out.glt; omega, fun e => by have := HD5.out.vlt k e.symm; omega⟩) HB5.out (by have := HL5.out; omega) ?_; intro v6 w6 hn6 hb6 hg6; have HD6 := Lib.hid (HD5.out.grown HK5.out hg6); have HN6 := Lib.hid hn6; have HB6 := Lib.hid hb6; clear hn6 hb6 hg6))
              go_roundw
              case rel => exact ⟨i + 0, k + 1, v5, b5, by go_num, by go_num, by omega, by omega, fun h => HKR.out (by omega), HE.out.symm, HD6, HB6, by rw [HFX.out]; exact HN6⟩
              case measure => simp [intOf]; omega
    · obtain rfl : k = m + 1 := by omega
      have hd1 : decide ((((m + 1 : Nat)) : Int) ≤ m) = false := by simp; omega
      obtain rfl := HEND.out rfl
      have HT := Lib.hid (show xs.take xs.length = xs from List.take_length)
      go_wp2_with fail
      go_ret3
      exact ⟨_, v, b, rfl, ⟨by have h := HD.out; rw [HT.out] at h; exact h, HB.out, by have h := HN.out; rw [HT.out] at h; exact h⟩⟩
theorem Given.F {sa : Nat → Addr} {w w' w2 : World} {most : Int} {xs : List Int} {A : Option Addr} {n c b : Nat} {v : Value} (h : Given sa w w' most xs (.slice A n c) v b) (hb : Below w'.heap.size w' w2) : Kd.F kFr w2 (fun k => k < w2.heap.size) A n (framesX most xs) :=
  Kd.F_mono (Kd.F_bound (Kd.F_below (Kd.N_F h.frames) hb)) fun k hk => hk.2
theorem Given.form {sa : Nat → Addr} {w w' : World} {most : Int} {xs : List Int} {fv : Value} {b : Nat} {v : Value} (h : Given sa w w' most xs fv v b) : ∃ A c, fv = .slice A (framesX most xs).length c := by
  obtain ⟨A, c, rfl, _⟩ := Kd.N_reads h.frames
  exact ⟨A, c, rfl⟩
end Go.Proofs.YtfddhipdedcacaaDoor
