/-
  A law's argument that is a list of bytes, opened.
-/
import Derived.Test.YtfddhipdedcacaaDoorBs
import Derived.Test.YtfddhipdedcacaaDoorOpen
import Derived.SizedLaws
import Derived.ChangeSlices
namespace Go.Proofs.YtfddhipdedcacaaDoor
open Go.ChangeShapes Go.WideShapes Go.RowKit Go.Deep
set_option linter.unusedVariables false

theorem bytes_of {W : World} {x : Addr} {len cap : Nat} {zs : List Int} (hl : len ≤ cap) (hm : cap ≤ maxLen) (hz : zs.length = cap) (hc : ∀ i, i < zs.length → W.cell? (x.add i) = some (.int .u8 (zs.getD i 0))) (hw : ∀ n ∈ zs, (Lit.int .u8 n).wf = true) :
    Bs W (some x) len cap (zs.take len) := by
  refine ⟨by simp; omega, hl, by simpa [maxLen] using hm, fun y hy => bd8 (hw y (List.mem_of_mem_take hy)), (fun e => by cases e), fun h0 => ?_⟩
  obtain ⟨b, o, rfl, hr⟩ := ints_at hc (by omega)
  refine ⟨b, o, rfl, fun j hj => ?_⟩
  rw [hr j (by omega)]
  simp [List.getD_eq_getElem?_getD, hj]

set_option maxRecDepth 100000 in
theorem open_bytes {H : Type} {enc : TypeId × Value → H} {w : World} {base b0 : Nat} {held : Bool} {r : Reach} {v : Value} {d : DataW H} {p : List MemPlace}
    (hv : Value.okWide Tryd.prog w r b0 38 v) (h : DataW.Trod enc Tryd.prog w base (fun _ => true) held 38 v d p) :
    ∃ A n c xs, v = .slice A n c ∧ Bs w A n c xs := by
  obtain ⟨a, len, cap, rfl⟩ := okWide_slice Tryd.underlying38 hv
  obtain ⟨fuel, hf⟩ := h
  rcases open_ints Tryd.underlying38 Tryd.underlying5 (by kernel_rfl) hf with ⟨hcs, _⟩ | ⟨x, l, c, zs, hcs, _, hl, hm, hz, _, hcell, hwz⟩
  · simp [Value.cells] at hcs
    obtain ⟨rfl, rfl, rfl⟩ := hcs
    exact ⟨none, 0, 0, [], rfl, rfl, Nat.le_refl _, by omega, (fun x hx => by cases hx), fun _ => ⟨rfl, rfl⟩, fun h => by omega⟩
  · simp [Value.cells] at hcs
    obtain ⟨rfl, rfl, rfl⟩ := hcs
    exact ⟨_, _, _, _, rfl, bytes_of hl hm (by simpa using hz) hcell hwz⟩

set_option maxRecDepth 100000 in
theorem sized_bytes {H : Type} {enc : TypeId × Value → H} {W : World} {base : Nat} {spare : Nat → Bool} {held : Bool} {a : Option Addr} {len cap : Nat} {d : DataW H} {ps : List MemPlace} {ts : List TypeId} {ds : List (DataW H)} {j : Nat}
    (hsz : (DataW.weightsEach Tryd.prog ts ds).all (· ≤ reachBytes) = true) (ht : ts[j]? = some 38) (hd : ds[j]? = some d)
    (h : DataW.Trod enc Tryd.prog W base spare held 38 (.slice a len cap) d ps) : len ≤ 140737488351232 := by
  obtain ⟨fuel, hf⟩ := h
  rcases open_ints Tryd.underlying38 Tryd.underlying5 (by kernel_rfl) hf with ⟨hcs, _⟩ | ⟨x, l, c, zs, hcs, _, hl, _, hz, hx, _, _⟩
  · simp [Value.cells] at hcs
    obtain ⟨rfl, rfl, rfl⟩ := hcs
    omega
  · simp [Value.cells] at hcs
    obtain ⟨rfl, rfl, rfl⟩ := hcs
    have e : d = .slice (lits .u8 (zs.take len)) (lits .u8 (zs.drop len)) := congrArg (·.1) hx
    subst e
    have hb : Tryd.prog.bytesOf 5 = 1 := by kernel_rfl
    have z := sized_slice hsz ht hd Tryd.underlying38
    rw [hb] at z
    simp [lits, reachBytes] at z
    have : len ≤ zs.length := by rw [hz]; split <;> omega
    omega
end Go.Proofs.YtfddhipdedcacaaDoor
