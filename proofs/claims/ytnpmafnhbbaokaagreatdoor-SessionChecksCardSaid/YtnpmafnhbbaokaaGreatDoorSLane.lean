/-
  Lanes: fits, check, Put of the first ticket; table.Put of the first stream.
-/
import Derived.Test.YtnpmafnhbbaokaaGreatDoorSStr
import Derived.OwnWalk
import Derived.Maps.AppendAt
import Derived.StillTailTactics
namespace Go.Proofs.YtnpmafnhbbaokaaGreatDoor
open Go Go.RowKit
open Go.ChangeMaps (setBlock)
set_option linter.unusedVariables false
set_option linter.unusedSimpArgs false
/-- The forms of the tickets of kinds SYN and Ping. -/
def Frm (w : World) : Prop :=
  (w.cell? ⟨43, 5, none⟩ = some (.int .i64 1) ∧ w.cell? ⟨43, 6, none⟩ = some (.int .i64 0) ∧ w.cell? ⟨43, 7, none⟩ = some (.bool true) ∧ w.cell? ⟨43, 8, none⟩ = some (.int .u8 1) ∧ w.cell? ⟨43, 9, none⟩ = some (.int .u16 1))
theorem Frm.below {w w' : World} (h : Frm w) (hb : Below w.heap.size w w') : Frm w' := ⟨keepA hb h.1, keepA hb h.2.1, keepA hb h.2.2.1, keepA hb h.2.2.2.1, keepA hb h.2.2.2.2⟩
theorem fits_1 {w : World} (n : Int) (h : n ≠ 0) : Calls Tryz.prog 112 #[.int .i64 1, .int .u32 n] w fun e w' => e = .returned (.bool true) ∧ w' = w := by
  have hb : (n != 0) = true := by simpa using h
  go_enter Tryz.func112, Tryz.ntmps112
  go_wp2_with fail
  go_ret
  exact ⟨rfl, rfl⟩
theorem fits_0 {w : World} : Calls Tryz.prog 112 #[.int .i64 0, .int .u32 0] w fun e w' => e = .returned (.bool true) ∧ w' = w := by
  go_enter Tryz.func112, Tryz.ntmps112
  go_wp2_with fail
  go_ret
  exact ⟨rfl, rfl⟩
def tk (k s v : Int) : Value := .agg #[.int .i64 k, .int .u32 s, .int .u32 v]
set_option maxHeartbeats 1000000 in
theorem check_syn {w : World} (hF : Frm w) (n : Int) (h : n ≠ 0) : Calls Tryz.prog 85 #[tk 1 n 0] w fun e w' => e = .returned .nilIface ∧ Below w.heap.size w w' := by
  obtain ⟨q0, q1, q2, q3, q4⟩ := hF
  have hlt : 43 < w.heap.size := World.block_lt_of_cell? w _ q0
  have l1 : 43 < w.heap.size + 1 := by omega
  have hne : ¬ (43 = w.heap.size) := by omega
  unfold tk
  go_enter Tryz.func85, Tryz.ntmps85
  go_wp2_with fail
  refine (fits_1 n h).mono ?_
  rintro e w1 ⟨rfl, rfl⟩
  go_wp2_with fail
  refine fits_0.mono ?_
  rintro e w1 ⟨rfl, rfl⟩
  go_wp2_with fail
  go_ret
  refine ⟨rfl, ?_⟩
  repeat (first | with_reducible exact Below.refl _ _ | (with_reducible refine Below.alloc ?_ ?h _; (case h => first | (simp; done) | (simp; omega))))
theorem ent_info : (Tryz.prog.info? 199).map (fun i => (i.zero, i.size, i.bytes)) = some (some (.pointer none), 1, 8) := by kernel_rfl
theorem u32_info : (Tryz.prog.info? 35).map (fun i => (i.zero, i.size, i.bytes)) = some (some (.int .u32 0), 1, 4) := by kernel_rfl
/-- append(nil, x) of one cell. -/
theorem app_nil {W : World} {ops : Array Oper} {rest : List Oper} {o : Oper} {a : Act} {Q : Exit → Act → World → Prop} (hgd : o.guard = none) (s x : Operand) (T E : TypeId) (z : Value) (by_ : Nat)
    (ho : o.op = .call { callee := .builtin .append, args := #[s, x], argTypes := #[T, T] })
    (hT : Tryz.prog.underlying T = some (.slice E)) (hi : (Tryz.prog.info? E).map (fun i => (i.zero, i.size, i.bytes)) = some (some z, 1, by_)) (hz : z.cells.size = 1) (hby : by_ ≤ 1000)
    (y : Value) (hy : y.oneCell' = true) (hs : a.eval s = .slice none 0 0) (hx : a.eval x = .slice (some ⟨W.heap.size, 0, none⟩) 1 1)
    (h : ∀ r cap cur w', W.heap.size < r → w'.heap[r]? = some (.cells cur E (0, 0)) → cur[0]? = some y → 1 ≤ cap → cap ≤ maxLen → cur.size = cap → Ch [] W w' → wpList Tryz.prog ops Q rest (a.put o.dst (.slice (some ⟨r, 0, none⟩) 1 cap)) w') :
    wpList Tryz.prog ops Q (o :: rest) a (W.alloc (.cells #[y] E)) := by
  obtain ⟨i0, hi, hz0, hz1, hz2⟩ := info_parts hi
  refine wpList_append_own _ hgd s x T ho (W.heap.size + 1) E i0 z 1 by_ hT hi hz0 hz1 hz2 hz (by decide) (.slice none 0 0) 0 [] hs ⟨rfl, .inl ⟨rfl, rfl⟩⟩ ⟨W.heap.size, 0, none⟩ 1 1 [y] hx rfl (cell_one_new _ _ _) (by simpa using hy) (by unfold maxLen; omega) (by omega) (by simp) ?_
  intro v' w' h1 h2 h3
  rcases h1.2 with ⟨_, h0⟩ | ⟨g, cap, cur, rfl, hb, hh, hnc, hm, hs', ht⟩
  · omega
  · refine h g cap cur w' (by omega) hh ?_ hnc hm (by omega) ?_
    · have := congrArg (fun l => l[0]?) ht
      simpa using this
    · exact ((Ch.refl [] W).alloc _).grown h2 (fun k hk => by simp [Value.ownBlock] at hk)
/-- Looks and stores in maps, by the entries. -/
theorem look_none {W : World} {t k v : TypeId} {b cl : Nat} {es : Array MapEntry} {key z : Value} (c : Bool) (hu : Tryz.prog.underlying t = some (.map k v)) (h : W.heap[b]? = some (.map es cl)) (hz : (zeroValue v).run Tryz.prog W = .ok z W)
    (hc : (Instr.checkKey es.isEmpty 10000 k key).run Tryz.prog W = .ok () W) (hf : (Instr.findKey k key es.toList).run Tryz.prog W = .ok none W) :
    (Instr.lookup t (.map (some b)) key c).run Tryz.prog W = .ok (if c then .tuple #[z, .bool false] else z) W := by
  cases c <;> simp [Instr.lookup, run_underlying hu, MapKept.run_getObj_map h, Result.andThen, hc, hf, hz]
theorem look_some {W : World} {t k v : TypeId} {b cl i : Nat} {es : Array MapEntry} {key x : Value} (c : Bool) (hu : Tryz.prog.underlying t = some (.map k v)) (h : W.heap[b]? = some (.map es cl))
    (hc : (Instr.checkKey es.isEmpty 10000 k key).run Tryz.prog W = .ok () W) (hf : (Instr.findKey k key es.toList).run Tryz.prog W = .ok (some (i, x)) W) :
    (Instr.lookup t (.map (some b)) key c).run Tryz.prog W = .ok (if c then .tuple #[x, .bool true] else x) W := by
  cases c <;> simp [Instr.lookup, run_underlying hu, MapKept.run_getObj_map h, Result.andThen, hc, hf]
theorem store_new {W : World} {t k v : TypeId} {b cl : Nat} {es : Array MapEntry} {key x : Value} (hu : Tryz.prog.underlying t = some (.map k v)) (h : W.heap[b]? = some (.map es cl))
    (hc : (Instr.checkKey false 10000 k key).run Tryz.prog W = .ok () W) (hf : (Instr.findKey k key es.toList).run Tryz.prog W = .ok none W) :
    (Instr.mapUpdate t (.map (some b)) key x).run Tryz.prog W = .ok () (setBlock W b (.map (es.push { key, val := x, born := cl }) (cl + 1))) := by
  simp [Instr.mapUpdate, run_underlying hu, MapKept.run_getObj_map h, Result.andThen, hc, hf, setObj, Sem.run, h, setBlock]
theorem drop_some {W : World} {t k v ty : TypeId} {b cl i : Nat} {es : Array MapEntry} {key x : Value} (hu : Tryz.prog.underlying t = some (.map k v)) (h : W.heap[b]? = some (.map es cl))
    (hc : (Instr.checkKey es.isEmpty 10000 k key).run Tryz.prog W = .ok () W) (hf : (Instr.findKey k key es.toList).run Tryz.prog W = .ok (some (i, x)) W) :
    (Builtin.delete_ #[t, k] ty #[.map (some b), key]).run Tryz.prog W = .ok (.tuple #[]) (setBlock W b (.map (es.eraseIdxIfInBounds i) cl)) := by
  simp [Builtin.delete_, run_underlying hu, MapKept.run_getObj_map h, Result.andThen, hc, hf, setObj, Sem.run, h, setBlock]
theorem len_map {W : World} {t k v ty : TypeId} {b cl : Nat} {es : Array MapEntry} (hu : Tryz.prog.underlying t = some (.map k v)) (h : W.heap[b]? = some (.map es cl)) :
    (Builtin.len_ #[t] ty #[.map (some b)]).run Tryz.prog W = .ok (.int .i64 es.size) W := by
  simp [Builtin.len_, run_underlying hu, MapKept.run_getObj_map h, goInt, Result.andThen]
theorem Ch.block_ {L : List Nat} {w w1 : World} {b cl : Nat} {es : Array MapEntry} (h : Ch L w w1) (hb : w1.heap[b]? = some (.map es cl)) (hL : b ∈ L ∨ w.heap.size ≤ b) (o : Obj) : Ch L w (setBlock w1 b o) :=
  ⟨h.os, h.tape, h.output, by have := h.size; simpa [setBlock] using this, fun k hk hn => (ChangeMaps.heap_setBlock_other hb o (show k ≠ b from fun e => hL.elim (fun h' => hn (by rw [e]; exact h')) (fun h' => by omega))).trans (h.block k hk hn)⟩
/-- The first stream's number; its ticket's place. -/
theorem key_one (W : World) (em : Bool) (n : Int) : (Instr.checkKey em 10000 35 (.int .u32 n)).run Tryz.prog W = .ok () W := by kernel_rfl
theorem key_place (W : World) (em : Bool) (k n : Int) : (Instr.checkKey em 10000 198 (.agg #[.int .i64 k, .int .u32 n])).run Tryz.prog W = .ok () W := by kernel_rfl
theorem find_e (W : World) (t : TypeId) (key : Value) (h : ∃ d, Tryz.prog.underlying t = some d) : (Instr.findKey t key []).run Tryz.prog W = .ok none W := by
  obtain ⟨d, hd⟩ := h
  simp [Instr.findKey, run_underlying hd, Instr.findNow, Result.andThen]
theorem find_one (W : World) (x : Value) (bn : Nat) : (Instr.findKey 35 (.int .u32 1) [⟨.int .u32 1, x, bn⟩]).run Tryz.prog W = .ok (some (0, x)) W := by kernel_rfl
theorem find_place (W : World) (x : Value) (bn : Nat) : (Instr.findKey 198 (.agg #[.int .i64 1, .int .u32 1]) [⟨.agg #[.int .i64 1, .int .u32 1], x, bn⟩]).run Tryz.prog W = .ok (some (0, x)) W := by kernel_rfl
end Go.Proofs.YtnpmafnhbbaokaaGreatDoor
