/-
 culvertref26's is and next.
-/
import Derived.Test.YtidmgckmphcegaaGreatDoorTRFun
import Derived.Test.YtidmgckmphcegaaGreatDoorMH
import Derived.Test.YtidmgckmphcegaaGreatDoorML
import Derived.Test.YtidmgckmphcegaaGreatDoorMD
namespace Go.Proofs.YtidmgckmphcegaaGreatDoor
open Go Go.RowKit Go.Proofs.YtidmgckmphcegaaGreatDoorW.PrintWords Go.Proofs.YtidmgckmphcegaaGreatDoorW.PrintLast Go.Proofs.YtidmgckmphcegaaGreatDoorW.PrintMore Go.Proofs.YtidmgckmphcegaaGreatDoor.Px Go.Proofs.YtidmgckmphcegaaGreatDoor.PTapAssembles
set_option linter.unusedVariables false
set_option linter.unusedSimpArgs false
structure RdW (w : World) (A : Option Addr) (c : Nat) (ws : List ByteArray) : Prop where
 cap : ws.length ≤ c
 rd : ∀ j x, ws[j]? = some x → ∃ ad, A = some ad ∧ w.cell? (ad.add j) = some (.string x)
theorem RdW.next {w w' : World} {A : Option Addr} {c : Nat} {ws : List ByteArray} (h : RdW w A c ws) (hb : Below w.heap.size w w') : RdW w' A c ws :=
 ⟨h.cap, fun j x hj => by
  obtain ⟨ad, h1, h2⟩ := h.rd j x hj
  exact ⟨ad, h1, keepA hb h2⟩⟩
theorem RdW.of {w : World} {v : Value} {B : Nat} {ok : Nat → Prop} {ws : List ByteArray} (h : Kd.R Kd.string 9 w B ok v ws) : ∃ A c, v = .slice A ws.length c ∧ RdW w A c ws := by
 obtain ⟨A, c, rfl⟩ := Kd.R_slice h
 obtain ⟨h1, h2, h3⟩ := Kd.R_reads' h
 refine ⟨A, c, rfl, h2, fun j x hj => ?_⟩
 have hjl : j < ws.length := (List.getElem?_eq_some_iff.1 hj).1
 cases A with
 | none =>
   obtain ⟨_, inner, ho, _⟩ := h
   rcases ho.2 with ⟨hv, hz⟩ | ⟨g, cap', cur, hv, _⟩
   · injection hv with _ hn _; omega
   · cases hv
 | some ad =>
   obtain ⟨c', hcl, hM, hc⟩ := Kd.R_get h x (j : Int) (by omega) (by omega)
   refine ⟨ad, rfl, ?_⟩
   have e1 : ws.getD ((j : Int)).toNat x = x := by
    rw [Int.toNat_natCast, List.getD_eq_getElem?_getD, hj]; rfl
   rw [e1] at hM
   have hM' : c' = [Value.string x] := hM
   have := hc 0 (.string x) (by rw [hM']; rfl)
   rw [show (j : Int).toNat * Kd.string.sz + 0 = j by show (j : Int).toNat * 1 + 0 = j; omega] at this
   exact this
def rdg (A : Option Addr) (n c a : Nat) (v t f s l : Int) (bad : Bool) : Value := .agg #[.slice A n c, .int .i64 a, .int .u8 v, .int .u8 t, .int .u16 f, .int .u32 s, .int .u32 l, .bool bad]
def lsw (ws : List ByteArray) : Wds := ws.map (·.data.toList)
theorem lsw_drop {ws : List ByteArray} {a : Nat} {x : ByteArray} (h : ws[a]? = some x) : (lsw ws).drop a = x.data.toList :: (lsw ws).drop (a + 1) := by
 have hl : a < (lsw ws).length := by have := (List.getElem?_eq_some_iff.1 h).1; unfold lsw; simpa using this
 rw [List.drop_eq_getElem_cons hl]
 congr 1
 have := (List.getElem?_eq_some_iff.1 h).2
 simp only [lsw, List.getElem_map, this]
theorem lsw_len (ws : List ByteArray) : (lsw ws).length = ws.length := by simp [lsw]
def IsTo (word : List UInt8) (L : Wds) (a a' : Nat) (q : Bool) : Prop := match isW word (L.drop a) with
 | none => q = false ∧ a' = a
 | some r => q = true ∧ L.drop a' = r
set_option maxRecDepth 100000 in
set_option maxHeartbeats 1000000 in
theorem ris_any {A : Option Addr} {c : Nat} {ws : List ByteArray} {w : World} (hW : RdW w A c ws) (word : ByteArray) (a : Nat) (v t f s l : Int) (bad : Bool) (ha : a ≤ ws.length) (hn : ws.length ≤ 140737488355328) :
    Calls Tryz.prog 92 #[rdg A ws.length c a v t f s l bad, .string word] w fun e w' => ∃ (a' : Nat) (q : Bool), e = .returned (.tuple #[rdg A ws.length c a' v t f s l bad, .bool q]) ∧ a' ≤ ws.length ∧ IsTo word.data.toList (lsw ws) a a' q ∧ Below w.heap.size w w' := by
 unfold rdg
 obtain ⟨n, hN⟩ : ∃ n, n = ws.length := ⟨_, rfl⟩
 rw [← hN] at ha hn ⊢
 by_cases hlt : a < n
 · obtain ⟨x, hx⟩ : ∃ x, ws[a]? = some x := ⟨_, List.getElem?_eq_getElem (by omega)⟩
   obtain ⟨ad, rfl, hcell⟩ := hW.rd a x hx
   have hd : (lsw ws).drop a = x.data.toList :: (lsw ws).drop (a + 1) := lsw_drop hx
   have hcap := hW.cap
   have hlt' : (a : Int) < n := by omega
   have hge : decide (n ≤ a) = false := decide_eq_false (by omega)
   have g1 := fun o => cell?_alloc_old o hcell
   have g2 := fun o1 o2 => cell?_alloc_old o2 (g1 o1)
   clear g1 hcell
   by_cases hq : x.data.toList = word.data.toList
   · have hq' : (x.toList == word.toList) = true := by rw [Lib.toList_data, Lib.toList_data, hq]; simp
     have HI := Lib.hid (show IsTo word.data.toList (lsw ws) a (a + 1) true by unfold IsTo; rw [hd, hq, isW_some]; exact ⟨rfl, rfl⟩)
     clear hW hN hx hd hq
     go_enter Tryz.func92, Tryz.ntmps92
     go_wp2_with fail
     refine bodyPost_ret (v := .tuple #[.agg #[.slice (some ad) n c, .int .i64 ((a : Int) + 1), .int .u8 v, .int .u8 t, .int .u16 f, .int .u32 s, .int .u32 l, .bool bad], .bool true]) ?_ rfl ⟨(a + 1), true, by rw [Int.natCast_add]; rfl, by omega, HI.out, ?_⟩
     · simp [results, Tryz.results92, go_sem]
     · repeat first | exact Below.refl _ _ | refine Below.setCell ?_ (by simp) _ | refine Below.alloc ?_ (by simp) _ | refine Below.drew ?_
   · have hq' : (x.toList == word.toList) = false := by rw [Lib.toList_data, Lib.toList_data]; exact beq_eq_false_iff_ne.2 hq
     have HI := Lib.hid (show IsTo word.data.toList (lsw ws) a a false by unfold IsTo; rw [hd, isW_none hq]; exact ⟨rfl, rfl⟩)
     clear hW hN hx hd hq
     go_enter Tryz.func92, Tryz.ntmps92
     go_wp2_with fail
     refine bodyPost_ret (v := .tuple #[.agg #[.slice (some ad) n c, .int .i64 ((a : Nat) : Int), .int .u8 v, .int .u8 t, .int .u16 f, .int .u32 s, .int .u32 l, .bool bad], .bool false]) ?_ rfl ⟨a, false, rfl, by omega, HI.out, ?_⟩
     · simp [results, Tryz.results92, go_sem]
     · repeat first | exact Below.refl _ _ | refine Below.setCell ?_ (by simp) _ | refine Below.alloc ?_ (by simp) _ | refine Below.drew ?_
 · have hge : decide (n ≤ a) = true := decide_eq_true (by omega)
   have HI := Lib.hid (show IsTo word.data.toList (lsw ws) a a false by
    unfold IsTo
    rw [List.drop_of_length_le (by rw [lsw_len]; omega)]
    exact ⟨rfl, rfl⟩)
   clear hW hN
   go_enter Tryz.func92, Tryz.ntmps92
   go_wp2_with fail
   refine bodyPost_ret (v := .tuple #[.agg #[.slice A n c, .int .i64 ((a : Nat) : Int), .int .u8 v, .int .u8 t, .int .u16 f, .int .u32 s, .int .u32 l, .bool bad], .bool false]) ?_ rfl ⟨a, false, rfl, by omega, HI.out, ?_⟩
   · simp [results, Tryz.results92, go_sem]
   · repeat first | exact Below.refl _ _ | refine Below.setCell ?_ (by simp) _ | refine Below.alloc ?_ (by simp) _ | refine Below.drew ?_
set_option maxRecDepth 100000 in
set_option maxHeartbeats 4000000 in
theorem rnext_any {A : Option Addr} {c : Nat} {ws : List ByteArray} {w : World} (hW : RdW w A c ws) (a : Nat) (v t f s l : Int) (bad : Bool) (lo hi : Int) (ha : a ≤ ws.length) (hn : ws.length ≤ 140737488355328) (hsz : ∀ x ∈ ws, x.size ≤ 4611686018427387904) :
    Calls Tryz.prog 93 #[rdg A ws.length c a v t f s l bad, .int .i64 lo, .int .i64 hi] w fun e w' => ∃ (a' : Nat) (m : Int) (bad' : Bool), e = .returned (.tuple #[rdg A ws.length c a' v t f s l bad', .int .i64 m]) ∧ a' ≤ ws.length ∧ rnext lo hi ((lsw ws).drop a) bad = (m, (lsw ws).drop a', bad') ∧ Below w.heap.size w w' := by
 unfold rdg
 obtain ⟨n, hN⟩ : ∃ n, n = ws.length := ⟨_, rfl⟩
 rw [← hN] at ha hn ⊢
 obtain ⟨w2, hw2⟩ : ∃ w2, w2 = (w.alloc (.cells #[.slice A n c, .int .i64 a, .int .u8 v, .int .u8 t, .int .u16 f, .int .u32 s, .int .u32 l, .bool bad] 97)).alloc (.cells #[.slice none 0 0, .int .i64 0, .int .u8 0, .int .u8 0, .int .u16 0, .int .u32 0, .int .u32 0, .bool false] 97) := ⟨_, rfl⟩
 have hbox : w2.heap[w.heap.size]? = some (.cells #[.slice A n c, .int .i64 a, .int .u8 v, .int .u8 t, .int .u16 f, .int .u32 s, .int .u32 l, .bool bad] 97 (0, 0)) := by rw [hw2]; exact (blk_old _ (by simp)).trans (alloc_at _ _)
 have hres : w2.heap[w.heap.size + 1]? = some (.cells #[.slice none 0 0, .int .i64 0, .int .u8 0, .int .u8 0, .int .u16 0, .int .u32 0, .int .u32 0, .bool false] 97 (0, 0)) := by rw [hw2]; exact alloc_at2 _ _ _
 have hb2 : Below w.heap.size w w2 := by rw [hw2]; exact ba_.alloc (by simp) _
 by_cases hlt : a < n
 · obtain ⟨x, hx⟩ : ∃ x, ws[a]? = some x := ⟨_, List.getElem?_eq_getElem (by omega)⟩
   obtain ⟨ad, rfl, hcell⟩ := hW.rd a x hx
   have hd : (lsw ws).drop a = x.data.toList :: (lsw ws).drop (a + 1) := lsw_drop hx
   have hcap := hW.cap
   have hlt' : (a : Int) < n := by omega
   have hge : decide (n ≤ a) = false := decide_eq_false (by omega)
   have g1 := fun o => cell?_alloc_old o hcell
   have g2 := fun o1 o2 => cell?_alloc_old o2 (g1 o1)
   clear g1 hcell
   have hxs := hsz x (List.mem_of_getElem? hx)
   have hnum := number_f x hxs _ (Nat.le_refl _) lo hi
   obtain ⟨m, ok, hmo⟩ : ∃ m ok, rNumber x.data.toList = (m, ok) := ⟨_, _, rfl⟩
   rw [hmo] at hnum
   obtain ⟨q, hq⟩ : ∃ q, q = (ok && decide (lo ≤ m) && decide (m ≤ hi)) := ⟨_, rfl⟩
   have hnum' : culvertref26_number.f (2 * x.size + 4) x lo hi = some (m, q) := by rw [hnum, hq]
   have HI := Lib.hid (show rnext lo hi ((lsw ws).drop a) bad = (m, (lsw ws).drop (a + 1), bad || !q) by rw [hd]; simp only [rnext, hmo, hq])
   have HNUM := Lib.hid hnum'
   have HBOX := Lib.hid hbox
   have HRES := Lib.hid hres
   have HB2 := Lib.hid hb2
   have HW2 := Lib.hid hw2
   clear hW hN hx hd hmo hnum hnum' hq hxs hsz hbox hres hb2 hw2
   go_enter Tryz.func93, Tryz.ntmps93
   go_wp2_with fail
   rw [← HW2.out]
   refine (culvertref26_number.calls _ x lo hi m q _ HNUM.out).mono ?_
   rintro e w3 ⟨rfl, hdr⟩
   have hb3 := hdr.below
   have hbox := keepB hb3 HBOX.out
   have hres := keepB hb3 HRES.out
   have HB3 := Lib.hid (belowT HB2.out hb3)
   clear hdr hb3 g2 HW2
   have e0 : w3.cell? ⟨w.heap.size, 0, none⟩ = some (.slice (some ad) n c) := cell_blk hbox rfl
   have e1 : w3.cell? ⟨w.heap.size, 1, none⟩ = some (.int .i64 a) := cell_blk hbox rfl
   have e2 : w3.cell? ⟨w.heap.size, 2, none⟩ = some (.int .u8 v) := cell_blk hbox rfl
   have e3 : w3.cell? ⟨w.heap.size, 3, none⟩ = some (.int .u8 t) := cell_blk hbox rfl
   have e4 : w3.cell? ⟨w.heap.size, 4, none⟩ = some (.int .u16 f) := cell_blk hbox rfl
   have e5 : w3.cell? ⟨w.heap.size, 5, none⟩ = some (.int .u32 s) := cell_blk hbox rfl
   have e6 : w3.cell? ⟨w.heap.size, 6, none⟩ = some (.int .u32 l) := cell_blk hbox rfl
   have e7 : w3.cell? ⟨w.heap.size, 7, none⟩ = some (.bool bad) := cell_blk hbox rfl
   have r0 : w3.cell? ⟨w.heap.size + 1, 0, none⟩ = some (.slice none 0 0) := cell_blk hres rfl
   have r1 : w3.cell? ⟨w.heap.size + 1, 1, none⟩ = some (.int .i64 0) := cell_blk hres rfl
   have r2 : w3.cell? ⟨w.heap.size + 1, 2, none⟩ = some (.int .u8 0) := cell_blk hres rfl
   have r3 : w3.cell? ⟨w.heap.size + 1, 3, none⟩ = some (.int .u8 0) := cell_blk hres rfl
   have r4 : w3.cell? ⟨w.heap.size + 1, 4, none⟩ = some (.int .u16 0) := cell_blk hres rfl
   have r5 : w3.cell? ⟨w.heap.size + 1, 5, none⟩ = some (.int .u32 0) := cell_blk hres rfl
   have r6 : w3.cell? ⟨w.heap.size + 1, 6, none⟩ = some (.int .u32 0) := cell_blk hres rfl
   have r7 : w3.cell? ⟨w.heap.size + 1, 7, none⟩ = some (.bool false) := cell_blk hres rfl
   have k1 : ∀ j, w3.frozen? ⟨w.heap.size, j, none⟩ = false := fun j => free_blk hbox
   have k2 : ∀ j, w3.frozen? ⟨w.heap.size + 1, j, none⟩ = false := fun j => free_blk hres
   clear hbox hres
   cases q
   · go_wp2_with fail
     refine bodyPost_ret (v := .tuple #[.agg #[.slice (some ad) n c, .int .i64 ((a : Int) + 1), .int .u8 v, .int .u8 t, .int .u16 f, .int .u32 s, .int .u32 l, .bool true], .int .i64 m]) ?_ rfl ⟨a + 1, m, true, by rw [Int.natCast_add]; rfl, by omega, by rw [HI.out]; simp, ?_⟩
     · simp [results, Tryz.results93, go_sem, r0, r1, r2, r3, r4, r5, r6, r7]
     · repeat first | (with_reducible refine Below.setCell ?_ (by simp) _) | with_reducible refine Below.drew ?_
       exact HB3.out
   · go_wp2_with fail
     refine bodyPost_ret (v := .tuple #[.agg #[.slice (some ad) n c, .int .i64 ((a : Int) + 1), .int .u8 v, .int .u8 t, .int .u16 f, .int .u32 s, .int .u32 l, .bool bad], .int .i64 m]) ?_ rfl ⟨a + 1, m, bad, by rw [Int.natCast_add]; rfl, by omega, by rw [HI.out]; simp, ?_⟩
     · simp [results, Tryz.results93, go_sem, r0, r1, r2, r3, r4, r5, r6, r7]
     · repeat first | (with_reducible refine Below.setCell ?_ (by simp) _) | with_reducible refine Below.drew ?_
       exact HB3.out
 · have hge : decide (n ≤ a) = true := decide_eq_true (by omega)
   have hdl : (lsw ws).drop a = [] := List.drop_of_length_le (by rw [lsw_len]; omega)
   have HI := Lib.hid (show rnext lo hi ((lsw ws).drop a) bad = (0, (lsw ws).drop a, true) by rw [hdl]; rfl)
   clear hW hN hdl hsz hbox hres hb2 hw2
   go_enter Tryz.func93, Tryz.ntmps93
   go_wp2_with fail
   refine bodyPost_ret (v := .tuple #[.agg #[.slice A n c, .int .i64 (a : Int), .int .u8 v, .int .u8 t, .int .u16 f, .int .u32 s, .int .u32 l, .bool true], .int .i64 0]) ?_ rfl ⟨a, 0, true, rfl, by omega, HI.out, ?_⟩
   · simp [results, Tryz.results93, go_sem]
   · repeat first | exact Below.refl _ _ | refine Below.setCell ?_ (by simp) _ | refine Below.alloc ?_ (by simp) _ | refine Below.drew ?_
end Go.Proofs.YtidmgckmphcegaaGreatDoor
