/-
  A law's argument that is a frame by value, opened.
-/
import Derived.Test.YtfddhipdedcacaaDoorOpenB
namespace Go.Proofs.YtfddhipdedcacaaDoor
open Go.ChangeShapes Go.WideShapes Go.RowKit Go.Joins Go.Deep
set_option linter.unusedVariables false
theorem cells_u8 : Tryd.prog.cellsOf 5 = 1 := by kernel_rfl
theorem cells_u16 : Tryd.prog.cellsOf 23 = 1 := by kernel_rfl
theorem cells_u32 : Tryd.prog.cellsOf 24 = 1 := by kernel_rfl
theorem cells_hd : Tryd.prog.cellsOf 26 = 5 := by kernel_rfl
theorem cells_bs : Tryd.prog.cellsOf 38 = 1 := by kernel_rfl
theorem cells_fr : Tryd.prog.cellsOf 45 = 6 := by kernel_rfl
section
variable {H : Type} {enc : TypeId × Value → H} {w : World} {base : Nat} {spare : Nat → Bool} {held : Bool}
set_option maxRecDepth 100000 in
/-- A header's five cells. -/
theorem open_hd5 {n : Nat} {c0 c1 c2 c3 c4 : Value} {y : DataW H × List MemPlace} (hf : DataW.trod enc Tryd.prog w base spare held n 26 [c0, c1, c2, c3, c4] = some y) :
    ∃ ver ty fl st ln, c0 = .int .u8 ver ∧ c1 = .int .u8 ty ∧ c2 = .int .u16 fl ∧ c3 = .int .u32 st ∧ c4 = .int .u32 ln ∧ HdrOk ver ty fl st ln ∧ ∃ ds, y.1 = .agg ds := by
  obtain ⟨xs, m, _, hx, _, hlen, hg⟩ := DataW.trod_struct Tryd.underlying26 hf
  match xs, hlen with
  | [y0, y1, y2, y3, y4], _ =>
    have k0 := hg 0 _ rfl
    have k1 := hg 1 _ rfl
    have k2 := hg 2 _ rfl
    have k3 := hg 3 _ rfl
    have k4 := hg 4 _ rfl
    simp [cells_u8, cells_u16, cells_u32] at k0 k1 k2 k3 k4
    obtain ⟨a, e0, _, wa⟩ := DataW.trod_int Tryd.underlying5 k0
    obtain ⟨b, e1, _, wb⟩ := DataW.trod_int Tryd.underlying5 k1
    obtain ⟨c, e2, _, wc⟩ := DataW.trod_int Tryd.underlying23 k2
    obtain ⟨s, e3, _, ws⟩ := DataW.trod_int Tryd.underlying24 k3
    obtain ⟨l, e4, _, wl⟩ := DataW.trod_int Tryd.underlying24 k4
    simp at e0 e1 e2 e3 e4
    subst e0 e1 e2 e3 e4
    exact ⟨a, b, c, s, l, rfl, rfl, rfl, rfl, rfl, ⟨(bd8 wa).1, (bd8 wa).2, (bd8 wb).1, (bd8 wb).2, (bd16 wc).1, (bd16 wc).2, (bd32 ws).1, (bd32 ws).2, (bd32 wl).1, (bd32 wl).2⟩, _, congrArg (·.1) hx⟩
/-- A slice's cell of bytes. -/
theorem open_bs {n : Nat} {v : Value} {y : DataW H × List MemPlace} (hf : DataW.trod enc Tryd.prog w base (fun _ => true) held n 38 [v] = some y) :
    ∃ A k c xs, v = .slice A k c ∧ Bs w A k c xs ∧ (y.1 = .nil ∧ k = 0 ∨ ∃ es sp, y.1 = .slice es sp ∧ es.length = k) := by
  rcases open_ints Tryd.underlying38 Tryd.underlying5 (by kernel_rfl) hf with ⟨hcs, hn⟩ | ⟨x, l, c, zs, hcs, _, hl, hm, hz, hx, hcell, hwz⟩
  · obtain rfl := (List.cons.inj hcs).1
    exact ⟨none, 0, 0, [], rfl, ⟨rfl, Nat.le_refl _, by omega, (fun x hx => by cases hx), fun _ => ⟨rfl, rfl⟩, fun h => by omega⟩, .inl ⟨congrArg (·.1) hn, rfl⟩⟩
  · obtain rfl := (List.cons.inj hcs).1
    refine ⟨_, _, _, _, rfl, bytes_of hl hm (by simpa using hz) hcell hwz, .inr ⟨_, _, congrArg (·.1) hx, ?_⟩⟩
    have : l ≤ zs.length := by rw [hz]; split <;> omega
    simp [lits]; omega
set_option maxRecDepth 100000 in
theorem open_frame {b0 : Nat} {r : Reach} {v : Value} {d : DataW H} {p : List MemPlace}
    (hv : Value.okWide Tryd.prog w r b0 45 v) (h : DataW.Trod enc Tryd.prog w base (fun _ => true) held 45 v d p) :
    ∃ ver ty fl st ln A n c xs, v = .agg #[.int .u8 ver, .int .u8 ty, .int .u16 fl, .int .u32 st, .int .u32 ln, .slice A n c] ∧ Bs w A n c xs ∧ HdrOk ver ty fl st ln ∧
      ∃ dh db, d = .agg [dh, db] ∧ (∃ ds, dh = .agg ds) ∧ (db = .nil ∧ n = 0 ∨ ∃ es sp, db = .slice es sp ∧ es.length = n) := by
  obtain ⟨cs, rfl, hsz⟩ := okWide_struct Tryd.underlying45 hv
  obtain ⟨l⟩ := cs
  match l, hsz.trans cells_fr with
  | [c0, c1, c2, c3, c4, c5], _ =>
    obtain ⟨fuel, hf⟩ := h
    obtain ⟨y0, y1, n, hx, _, k0, k1⟩ := trod_struct2 Tryd.underlying45 hf
    simp [Value.cells, cells_hd, cells_bs] at k0 k1
    obtain ⟨ver, ty, fl, st, ln, rfl, rfl, rfl, rfl, rfl, hok, hds⟩ := open_hd5 k0
    obtain ⟨A, k, c, xs, rfl, hB, hdb⟩ := open_bs k1
    exact ⟨ver, ty, fl, st, ln, A, k, c, xs, rfl, hB, hok, y0.1, y1.1, congrArg (·.1) hx, hds, hdb⟩
end
/-- The payload's length is within what a reading may take. -/
theorem sized_frame {H : Type} {ts : List TypeId} {ds : List (DataW H)} {j n : Nat} {dh db : DataW H}
    (hsz : (DataW.weightsEach Tryd.prog ts ds).all (· ≤ reachBytes) = true) (ht : ts[j]? = some 45) (hd : ds[j]? = some (.agg [dh, db])) (h : db = .nil ∧ n = 0 ∨ ∃ es sp, db = .slice es sp ∧ es.length = n) : n ≤ 140737488351232 := by
  rcases h with ⟨_, rfl⟩ | ⟨es, sp, rfl, rfl⟩
  · omega
  · have hs : (DataW.weightsEach Tryd.prog [26, 38] [dh, .slice es sp]).all (· ≤ reachBytes) = true := by
      refine List.all_eq_true.2 fun x hx => List.all_eq_true.1 hsz x (DataW.weights_mem_each ht hd x ?_)
      rw [DataW.weights, Tryd.underlying45]
      exact hx
    have z := sized_slice hs (j := 1) rfl rfl Tryd.underlying38
    have hb : Tryd.prog.bytesOf 5 = 1 := by kernel_rfl
    rw [hb] at z
    simp only [reachBytes] at z
    omega
end Go.Proofs.YtfddhipdedcacaaDoor
