import Derived.LaidSub
import Derived.Stop.LaidErr
import Derived.Stop.LaidTwo
import Derived.MakeChecks
import Derived.Below
import Derived.Test.YtidmgckmphcegaaGreatDoorProg
import Derived.WalkKit
import Derived.LaidEql
import Derived.Stop.Asserts
import Derived.RowKitTokens
import Derived.Lib.Hide
import Derived.Outline
import Derived.Deep.QuietTactic
import Derived.BigQuiet
import Derived.Laws.IdiomCopy
import Derived.Laws.NewBlocks
import Derived.Laws.Rows
import Derived.Laws.BitsAllLaws
import Derived.ProofKit
import Derived.OpenShut
import Derived.Lib.SmallJoins
import Derived.Deep.Fields
/-
 What a row's list of package-level variables gives: of every listed error made by errors.New its pointer, and that two of them are two pointers. Of whatever program.
-/
namespace Go.Proofs.YtidmgckmphcegaaGreatDoor
open Go.RowKit
theorem laidVars_sub {P : Program} {w : World} : ∀ {l l' : List (String × DataW Unit)} {ps : List MemPlace}, l'.Sublist l → DataW.LaidVars P w l ps → ∃ ps', DataW.LaidVars P w l' ps' ∧ ps'.Sublist ps
 | [], l', ps, hs, h => by
   obtain rfl : l' = [] := List.sublist_nil.1 hs
   exact ⟨ps, h, List.Sublist.refl _⟩
 | (n, d) :: r, l', ps, hs, h => by
   obtain ⟨g, t, cs, fuel, p, q, e1, e2, e3, e4, hr, rfl⟩ := h
   cases hs with
   | cons _ hs =>
     obtain ⟨q', hq, hs'⟩ := laidVars_sub hs hr
     exact ⟨q', hq, hs'.trans (List.sublist_append_right _ _)⟩
   | cons_cons _ hs =>
     obtain ⟨q', hq, hs'⟩ := laidVars_sub hs hr
     exact ⟨_, ⟨g, t, cs, fuel, p, q', e1, e2, e3, e4, hq, rfl⟩, List.Sublist.append (List.Sublist.refl _) hs'⟩
theorem laidMet_sub {P : Program} {w : World} {l l' : List (String × DataW Unit)} (hs : l'.Sublist l) (h : laidMet P l w) : laidMet P l' w := by
 obtain ⟨ps, hl, hnd, hrows⟩ := h
 obtain ⟨ps', hl', hs'⟩ := laidVars_sub hs hl
 exact ⟨ps', hl', hnd.sublist hs', fun b off hp => hrows b off (hs'.subset hp)⟩
theorem pair_sub {α : Type} {x y : α} (hne : x ≠ y) : ∀ {l : List α}, x ∈ l → y ∈ l → [x, y].Sublist l ∨ [y, x].Sublist l
 | z :: l, hx, hy => by
   rcases List.mem_cons.1 hx with rfl | hx'
   · rcases List.mem_cons.1 hy with rfl | hy'
     · exact absurd rfl hne
     · exact .inl ((List.singleton_sublist.2 hy').cons_cons _)
   · rcases List.mem_cons.1 hy with rfl | hy'
     · exact .inr ((List.singleton_sublist.2 hx').cons_cons _)
     · rcases pair_sub hne hx' hy' with h | h
       · exact .inl (h.cons _)
       · exact .inr (h.cons _)
def sentD (n : String) (text : List UInt8) : String × DataW Unit := (n, .iface "*errors.errorString" (.ptr (.agg [.lit (.string text)])))
structure SentAt (w : World) (tp : TypeId) (g : Nat) (a : Addr) : Prop where
 glob : w.cell? ⟨g, 0, none⟩ = some (.iface tp (.pointer (some a)))
 row : ∃ cs t, w.heap[a.block]? = some (.cells cs t (0, 0))
theorem SentAt.below {w w' : World} {tp : TypeId} {g : Nat} {a : Addr} {B : Nat} (h : SentAt w tp g a) (hg : g < B) (ha : a.block < B) (hb : Below B w w') : SentAt w' tp g a := by
 obtain ⟨h1, cs, t, h2⟩ := h
 exact ⟨(hb.cell (p := ⟨g, 0, none⟩) hg).trans h1, cs, t, (hb.block _ ha).trans h2⟩
theorem SentAt.glt {w : World} {tp : TypeId} {g : Nat} {a : Addr} (h : SentAt w tp g a) : g < w.heap.size := World.block_lt_of_cell? w ⟨g, 0, none⟩ h.glob
theorem SentAt.alt {w : World} {tp : TypeId} {g : Nat} {a : Addr} (h : SentAt w tp g a) : a.block < w.heap.size := by
 obtain ⟨_, cs, t, h2⟩ := h
 exact (Array.getElem?_eq_some_iff.1 h2).1
section
variable {P : Program} {W : World} {ti tp te ts : TypeId} {ms : Array (String × TypeId)} {f : Field}
theorem laid_one {n : String} {text : List UInt8} {l : List (String × DataW Unit)} {g : Nat} (h : laidMet P l W) (hx : sentD n text ∈ l)
    (hg : P.globalNamed n = some g) (ht : (P.globals[g]?).map (·.type) = some ti) (hi : P.underlying ti = some (.interface ms)) (hrow : ∀ u, P.typeName? 3 u = some "*errors.errorString" → u = tp)
    (hp : P.underlying tp = some (.pointer te)) (he : P.underlying te = some (.struct #[f])) (hft : f.type = ts) (hfo : f.offset = 0) (hs : P.underlying ts = some .string) (hc : P.cellsOf te = 1) (hcs : P.cellsOf ts = 1) :
    ∃ a, SentAt W tp g a := by
 have h1 := laidMet_sub (List.singleton_sublist.2 hx) h
 have h1c := h1
 obtain ⟨ps, ⟨g0, t0, cs0, f0, p0, q0, hg0, ht0, hv0, hd0, _, e0⟩, _, hrows⟩ := h1c
 obtain rfl := Option.some.inj (hg.symm.trans hg0)
 obtain rfl := Option.some.inj (ht.symm.trans ht0)
 subst e0
 obtain ⟨l0⟩ := cs0
 have ok0 : ∀ u v, l0 = [.iface u v] → Value.okWide P W .any 0 u v := fun u v e => by
  subst e
  exact (hrows g 0 (by simp [MemPlace.row])).2 u v (by simpa using World.var?_cell hg0 hv0 0)
 obtain ⟨a0, s0, rfl, hc0, hs0, hz0, rfl⟩ := errorString_of_trod hi hrow hp he hft hfo hs hc hcs hd0 ok0
 refine ⟨a0, ?_, (hrows a0.block a0.off (by simp [MemPlace.row])).1⟩
 simpa using World.var?_cell hg0 hv0 0
theorem laid_two {n0 n1 : String} {text0 text1 : List UInt8} {g0 g1 : Nat} {a0 a1 : Addr} {r : List (String × DataW Unit)} (h : laidMet P (sentD n0 text0 :: sentD n1 text1 :: r) W)
    (hg0 : P.globalNamed n0 = some g0) (ht0 : (P.globals[g0]?).map (·.type) = some ti) (hg1 : P.globalNamed n1 = some g1) (ht1 : (P.globals[g1]?).map (·.type) = some ti)
    (hi : P.underlying ti = some (.interface ms)) (hrow : ∀ u, P.typeName? 3 u = some "*errors.errorString" → u = tp)
    (hp : P.underlying tp = some (.pointer te)) (he : P.underlying te = some (.struct #[f])) (hft : f.type = ts) (hfo : f.offset = 0) (hs : P.underlying ts = some .string) (hc : P.cellsOf te = 1) (hcs : P.cellsOf ts = 1)
    (s0 : SentAt W tp g0 a0) (s1 : SentAt W tp g1 a1) : a0 ≠ a1 := by
 obtain ⟨b0, b1, t0, t1, c0, c1, u0, u1, hv0, hv1, _, _, _, _, _, _, hne, _, _⟩ := laid_sentinels2 h hg0 ht0 hg1 ht1 hi hrow hp he hft hfo hs hc hcs
 have e0 := (by simpa using World.var?_cell hg0 hv0 0 : W.cell? ⟨g0, 0, none⟩ = some (.iface tp (.pointer (some b0))))
 have e1 := (by simpa using World.var?_cell hg1 hv1 0 : W.cell? ⟨g1, 0, none⟩ = some (.iface tp (.pointer (some b1))))
 have f0 := s0.glob.symm.trans e0
 have f1 := s1.glob.symm.trans e1
 simp only [Option.some.injEq, Value.iface.injEq, Value.pointer.injEq, true_and] at f0 f1
 rw [f0, f1]
 exact hne
theorem laid_ne {n0 n1 : String} {text0 text1 : List UInt8} {g0 g1 : Nat} {a0 a1 : Addr} {l : List (String × DataW Unit)} (h : laidMet P l W) (hx : sentD n0 text0 ∈ l) (hy : sentD n1 text1 ∈ l) (hn : n0 ≠ n1)
    (hg0 : P.globalNamed n0 = some g0) (ht0 : (P.globals[g0]?).map (·.type) = some ti) (hg1 : P.globalNamed n1 = some g1) (ht1 : (P.globals[g1]?).map (·.type) = some ti)
    (hi : P.underlying ti = some (.interface ms)) (hrow : ∀ u, P.typeName? 3 u = some "*errors.errorString" → u = tp)
    (hp : P.underlying tp = some (.pointer te)) (he : P.underlying te = some (.struct #[f])) (hft : f.type = ts) (hfo : f.offset = 0) (hs : P.underlying ts = some .string) (hc : P.cellsOf te = 1) (hcs : P.cellsOf ts = 1)
    (s0 : SentAt W tp g0 a0) (s1 : SentAt W tp g1 a1) : a0 ≠ a1 := by
 rcases pair_sub (x := sentD n0 text0) (y := sentD n1 text1) (fun e => hn (congrArg (·.1) e)) hx hy with hs' | hs'
 · exact laid_two (laidMet_sub hs' h) hg0 ht0 hg1 ht1 hi hrow hp he hft hfo hs hc hcs s0 s1
 · exact (laid_two (laidMet_sub hs' h) hg1 ht1 hg0 ht0 hi hrow hp he hft hfo hs hc hcs s1 s0).symm
end
end Go.Proofs.YtidmgckmphcegaaGreatDoor
/-
 errors.Is where the target is one of api's errors: of nil, of one of api's errors, of a violation.
-/
namespace Go.Proofs.YtidmgckmphcegaaGreatDoor
open Go.RowKit Go.Extern.Stop Go.Stop Go.Extern
theorem isTypeOf (v : Value) (w : World) : (callFunc 90 #[.iface 253 v]).run Tryz.prog w = .ok (.value (.iface 192 (.agg #[.pointer (some ⟨53, 253, none⟩)]))) w := by kernel_rfl
theorem isComparable (w : World) : (callFunc 194 #[.agg #[.pointer (some ⟨53, 253, none⟩)]]).run Tryz.prog w = .ok (.value (.bool true)) w := by kernel_rfl
theorem isMethodComparable (v : Value) (w : World) : (Go.method 382 192 v "Comparable").run Tryz.prog w = .ok (194, v) w := by kernel_rfl
theorem isComp : (Tryz.prog.info? 253).map (·.comparable) = some true := by kernel_rfl
theorem isSize : (Tryz.prog.info? 255).map (·.size) = some 1 := by kernel_rfl
/-! The method sets. -/
theorem noIsE (v : Value) (xT : TypeId) (w : World) : (Instr.typeAssert (.iface 253 v) xT 194 true).run Tryz.prog w = .ok (.tuple #[.nilIface, .bool false]) w := run_typeAssert_lacksB Tryz.underlying194 (by kernel_rfl) (by kernel_rfl) v xT w
theorem noUnwrapE (v : Value) (xT : TypeId) (w : World) : (Instr.typeAssert (.iface 253 v) xT 197 true).run Tryz.prog w = .ok (.tuple #[.nilIface, .bool false]) w := run_typeAssert_lacksB Tryz.underlying197 (by kernel_rfl) (by kernel_rfl) v xT w
theorem noUnwrapsE (v : Value) (xT : TypeId) (w : World) : (Instr.typeAssert (.iface 253 v) xT 198 true).run Tryz.prog w = .ok (.tuple #[.nilIface, .bool false]) w := run_typeAssert_lacksB Tryz.underlying198 (by kernel_rfl) (by kernel_rfl) v xT w
theorem hasIsV (v : Value) (xT : TypeId) (w : World) : (Instr.typeAssert (.iface 131 v) xT 194 true).run Tryz.prog w = .ok (.tuple #[.iface 131 v, .bool true]) w := run_typeAssert_hasB Tryz.underlying194 (by kernel_rfl) v xT w
theorem hasUnwrapV (v : Value) (xT : TypeId) (w : World) : (Instr.typeAssert (.iface 131 v) xT 197 true).run Tryz.prog w = .ok (.tuple #[.iface 131 v, .bool true]) w := run_typeAssert_hasB Tryz.underlying197 (by kernel_rfl) v xT w
theorem methodIsV (v : Value) (w : World) : (Go.method 382 131 v "Is").run Tryz.prog w = .ok (187, v) w := by kernel_rfl
theorem methodUnwrapV (v : Value) (w : World) : (Go.method 382 131 v "Unwrap").run Tryz.prog w = .ok (188, v) w := by kernel_rfl
abbrev sv (a : Addr) : Value := .iface 253 (.pointer (some a))
abbrev vv (b o : Nat) : Value := .iface 131 (.pointer (some ⟨b, o, none⟩))
theorem is_same (a : Addr) (w : World) :
    Calls Tryz.prog 51 #[sv a, sv a] w fun e w' => e = .returned (.bool true) ∧ w' = w := by
 obtain ⟨i, hi, hcmp⟩ := Option.map_eq_some_iff.1 isComp
 obtain ⟨j, hj, hjs⟩ := Option.map_eq_some_iff.1 isSize
 have tT := isTypeOf
 have cT := isComparable
 have mR := isMethodComparable
 have heq := run_eql_iface_ptr_same (P := Tryz.prog) w a Tryz.underlying33 Tryz.underlying253 hi hcmp hj
 go_enter Tryz.func51, Tryz.ntmps51
 go_wp2
 refine wp_loop_rounds 1 ?_
 rw [rounds_succ]
 go_wp2
 go_ret
 exact ⟨rfl, rfl⟩
theorem is_nil (b : Addr) (w : World) :
    Calls Tryz.prog 51 #[.nilIface, sv b] w fun e w' => e = .returned (.bool false) ∧ w' = w := by
 have hn := run_eql_iface_nil_left (P := Tryz.prog) w 253 (.pointer (some b)) Tryz.underlying33
 go_enter Tryz.func51, Tryz.ntmps51
 go_wp2
 go_ret
 exact ⟨rfl, rfl⟩
theorem is_other (a b : Addr) (ca cb : Array Value) (ta tb : TypeId) (w : World) (hne : a ≠ b) (ha : w.heap[a.block]? = some (.cells ca ta (0, 0))) (hb : w.heap[b.block]? = some (.cells cb tb (0, 0))) :
    Calls Tryz.prog 51 #[sv a, sv b] w fun e w' => e = .returned (.bool false) ∧ w' = w := by
 obtain ⟨i, hi, hcmp⟩ := Option.map_eq_some_iff.1 isComp
 obtain ⟨j, hj, hjs⟩ := Option.map_eq_some_iff.1 isSize
 have tT := isTypeOf
 have cT := isComparable
 have mR := isMethodComparable
 have nE := noIsE
 have uE := noUnwrapE
 have vE := noUnwrapsE
 have heq := run_eql_iface_ptr_other (P := Tryz.prog) w Tryz.underlying33 Tryz.underlying253 hi hcmp hj (by rw [hjs]; decide) hne ha hb
 go_enter Tryz.func51, Tryz.ntmps51
 go_wp2
 refine wp_loop_rounds 1 ?_
 rw [rounds_succ]
 go_wp2
 go_ret
 exact ⟨rfl, rfl⟩
end Go.Proofs.YtidmgckmphcegaaGreatDoor
/-
 errors.Is of a violation, where the target is one of api's errors.
-/
namespace Go.Proofs.YtidmgckmphcegaaGreatDoor
open Go.RowKit Go.Extern.Stop Go.Stop Go.Extern
theorem viol_is_yes (b o : Nat) (pa : Addr) (w : World) (h : w.cell? ⟨31, 0, none⟩ = some (sv pa)) :
    Calls Tryz.prog 187 #[.pointer (some ⟨b, o, none⟩), sv pa] w fun e w' => e = .returned (.bool true) ∧ w' = w := by
 obtain ⟨i, hi, hcmp⟩ := Option.map_eq_some_iff.1 isComp
 obtain ⟨j, hj, hjs⟩ := Option.map_eq_some_iff.1 isSize
 have heq := run_eql_iface_ptr_same (P := Tryz.prog) w pa Tryz.underlying33 Tryz.underlying253 hi hcmp hj
 go_enter Tryz.func187, Tryz.ntmps187
 go_wp2
 go_ret
 exact ⟨rfl, rfl⟩
theorem viol_is_no (b o : Nat) (tb pa : Addr) (ca cb : Array Value) (ta tc : TypeId) (w : World) (h : w.cell? ⟨31, 0, none⟩ = some (sv pa)) (hne : tb ≠ pa)
    (ha : w.heap[tb.block]? = some (.cells ca ta (0, 0))) (hb : w.heap[pa.block]? = some (.cells cb tc (0, 0))) :
    Calls Tryz.prog 187 #[.pointer (some ⟨b, o, none⟩), sv tb] w fun e w' => e = .returned (.bool false) ∧ w' = w := by
 obtain ⟨i, hi, hcmp⟩ := Option.map_eq_some_iff.1 isComp
 obtain ⟨j, hj, hjs⟩ := Option.map_eq_some_iff.1 isSize
 have heq := run_eql_iface_ptr_other (P := Tryz.prog) w Tryz.underlying33 Tryz.underlying253 hi hcmp hj (by rw [hjs]; decide) hne ha hb
 go_enter Tryz.func187, Tryz.ntmps187
 go_wp2
 go_ret
 exact ⟨rfl, rfl⟩
theorem viol_unwrap (b o : Nat) (v : Value) (w : World) (h : w.cell? ⟨b, o + 1, none⟩ = some v) :
    Calls Tryz.prog 188 #[.pointer (some ⟨b, o, none⟩)] w fun e w' => e = .returned v ∧ w' = w := by
 go_enter Tryz.func188, Tryz.ntmps188
 go_wp2
 go_ret
 exact ⟨rfl, rfl⟩
theorem isv_protocol (b o : Nat) (pa : Addr) (w : World) (h : w.cell? ⟨31, 0, none⟩ = some (sv pa)) :
    Calls Tryz.prog 51 #[vv b o, sv pa] w fun e w' => e = .returned (.bool true) ∧ w' = w := by
 have tT := isTypeOf
 have cT := isComparable
 have mR := isMethodComparable
 have hI := hasIsV
 have mI := methodIsV
 have hty := run_eql_iface_types (P := Tryz.prog) 131 253 (.pointer (some ⟨b, o, none⟩)) (.pointer (some pa)) Tryz.underlying33 (by decide) w
 have H := Lib.hid (viol_is_yes b o pa w h)
 clear h
 go_enter Tryz.func51, Tryz.ntmps51
 go_wp2
 refine wp_loop_rounds 1 ?_
 rw [rounds_succ]
 go_wp2_with (go_at_call 187; refine H.out.mono ?_; rintro e w1 ⟨rfl, rfl⟩)
 go_ret
 exact ⟨rfl, rfl⟩
theorem isv_why (b o : Nat) (tb pa : Addr) (ca cb : Array Value) (ta tc : TypeId) (w : World) (h : w.cell? ⟨31, 0, none⟩ = some (sv pa)) (hne : tb ≠ pa)
    (ha : w.heap[tb.block]? = some (.cells ca ta (0, 0))) (hb : w.heap[pa.block]? = some (.cells cb tc (0, 0))) (hw : w.cell? ⟨b, o + 1, none⟩ = some (sv tb)) :
    Calls Tryz.prog 51 #[vv b o, sv tb] w fun e w' => e = .returned (.bool true) ∧ w' = w := by
 obtain ⟨i, hi, hcmp⟩ := Option.map_eq_some_iff.1 isComp
 obtain ⟨j, hj, hjs⟩ := Option.map_eq_some_iff.1 isSize
 have heq := run_eql_iface_ptr_same (P := Tryz.prog) w tb Tryz.underlying33 Tryz.underlying253 hi hcmp hj
 have tT := isTypeOf
 have cT := isComparable
 have mR := isMethodComparable
 have hI := hasIsV
 have hU := hasUnwrapV
 have mI := methodIsV
 have mU := methodUnwrapV
 have hty := run_eql_iface_types (P := Tryz.prog) 131 253 (.pointer (some ⟨b, o, none⟩)) (.pointer (some tb)) Tryz.underlying33 (by decide) w
 have H := Lib.hid (viol_is_no b o tb pa ca cb ta tc w h hne ha hb)
 have U := Lib.hid (viol_unwrap b o (sv tb) w hw)
 clear h hne ha hb hw
 go_enter Tryz.func51, Tryz.ntmps51
 go_wp2
 refine wp_loop_rounds 2 ?_
 rw [rounds_succ]
 go_wp2_with (first | (go_at_call 187; refine H.out.mono ?_; rintro e w1 ⟨rfl, rfl⟩) | (go_at_call 188; refine U.out.mono ?_; rintro e w1 ⟨rfl, rfl⟩))
 rw [rounds_succ]
 go_wp2
 go_ret
 exact ⟨rfl, rfl⟩
theorem isv_other (b o : Nat) (tb wa pa : Addr) (ca cb cw : Array Value) (ta tc tw : TypeId) (w : World) (h : w.cell? ⟨31, 0, none⟩ = some (sv pa)) (hne : tb ≠ pa) (hne2 : wa ≠ tb)
    (ha : w.heap[tb.block]? = some (.cells ca ta (0, 0))) (hb : w.heap[pa.block]? = some (.cells cb tc (0, 0))) (hwa : w.heap[wa.block]? = some (.cells cw tw (0, 0))) (hw : w.cell? ⟨b, o + 1, none⟩ = some (sv wa)) :
    Calls Tryz.prog 51 #[vv b o, sv tb] w fun e w' => e = .returned (.bool false) ∧ w' = w := by
 obtain ⟨i, hi, hcmp⟩ := Option.map_eq_some_iff.1 isComp
 obtain ⟨j, hj, hjs⟩ := Option.map_eq_some_iff.1 isSize
 have heq := run_eql_iface_ptr_other (P := Tryz.prog) w Tryz.underlying33 Tryz.underlying253 hi hcmp hj (by rw [hjs]; decide) hne2 hwa ha
 have tT := isTypeOf
 have cT := isComparable
 have mR := isMethodComparable
 have hI := hasIsV
 have hU := hasUnwrapV
 have mI := methodIsV
 have mU := methodUnwrapV
 have nE := noIsE
 have uE := noUnwrapE
 have vE := noUnwrapsE
 have hty := run_eql_iface_types (P := Tryz.prog) 131 253 (.pointer (some ⟨b, o, none⟩)) (.pointer (some tb)) Tryz.underlying33 (by decide) w
 have H := Lib.hid (viol_is_no b o tb pa ca cb ta tc w h hne ha hb)
 have U := Lib.hid (viol_unwrap b o (sv wa) w hw)
 clear h hne ha hb hw hwa hne2
 go_enter Tryz.func51, Tryz.ntmps51
 go_wp2
 refine wp_loop_rounds 2 ?_
 rw [rounds_succ]
 go_wp2_with (first | (go_at_call 187; refine H.out.mono ?_; rintro e w1 ⟨rfl, rfl⟩) | (go_at_call 188; refine U.out.mono ?_; rintro e w1 ⟨rfl, rfl⟩))
 rw [rounds_succ]
 go_wp2
 go_ret
 exact ⟨rfl, rfl⟩
end Go.Proofs.YtidmgckmphcegaaGreatDoor
/-
 The world in which api's errors lie as they were laid; culvertlaw01.sentinel, errors.Is and Code over it.
-/
namespace Go.Proofs.YtidmgckmphcegaaGreatDoor
open Go.RowKit
def snm : Nat → String
 | 1 => "culvert/api.ErrNil"
 | 2 => "culvert/api.ErrRange"
 | 3 => "culvert/api.ErrShort"
 | 4 => "culvert/api.ErrOverflow"
 | 5 => "culvert/api.ErrUnderflow"
 | 6 => "culvert/api.ErrFull"
 | 7 => "culvert/api.ErrEmpty"
 | 8 => "culvert/api.ErrTwice"
 | 9 => "culvert/api.ErrMissing"
 | 10 => "culvert/api.ErrConfig"
 | 11 => "culvert/api.ErrVersion"
 | 12 => "culvert/api.ErrType"
 | 13 => "culvert/api.ErrFlags"
 | 14 => "culvert/api.ErrID"
 | 15 => "culvert/api.ErrLength"
 | 16 => "culvert/api.ErrWindow"
 | 17 => "culvert/api.ErrCredit"
 | 18 => "culvert/api.ErrParity"
 | 19 => "culvert/api.ErrReused"
 | 20 => "culvert/api.ErrUnknown"
 | 21 => "culvert/api.ErrFlood"
 | 22 => "culvert/api.ErrPing"
 | 23 => "culvert/api.ErrState"
 | 24 => "culvert/api.ErrClosed"
 | 25 => "culvert/api.ErrEOF"
 | 26 => "culvert/api.ErrReset"
 | 27 => "culvert/api.ErrCut"
 | 28 => "culvert/api.ErrProtocol"
 | 29 => "culvert/api.ErrPeer"
 | 30 => "culvert/api.ErrAway"
 | 31 => "culvert/api.ErrLimit"
 | 32 => "culvert/api.ErrExhausted"
 | 33 => "culvert/api.ErrNoStream"
 | 34 => "culvert/api.ErrDead"
 | 35 => "culvert/api.ErrNoConn"
 | 36 => "culvert/api.ErrDraining"
 | 37 => "culvert/api.ErrLive"
 | 38 => "culvert/api.ErrHandle"
 | 39 => "culvert/api.ErrHistory"
 | 40 => "culvert/api.ErrWord"
 | 41 => "culvert/api.ErrArgument"
 | 42 => "culvert/api.ErrMany"
 | _ => ""
def stx : Nat → List UInt8
 | 1 => [99, 117, 108, 118, 101, 114, 116, 58, 32, 97, 32, 110, 105, 108, 32, 111, 98, 106, 101, 99, 116]
 | 2 => [99, 117, 108, 118, 101, 114, 116, 58, 32, 97, 32, 110, 117, 109, 98, 101, 114, 32, 111, 117, 116, 115, 105, 100, 101, 32, 105, 116, 115, 32, 114, 97, 110, 103, 101]
 | 3 => [99, 117, 108, 118, 101, 114, 116, 58, 32, 116, 111, 111, 32, 102, 101, 119, 32, 98, 121, 116, 101, 115]
 | 4 => [99, 117, 108, 118, 101, 114, 116, 58, 32, 97, 32, 115, 117, 109, 32, 97, 98, 111, 118, 101, 32, 50, 94, 51, 50, 45, 49]
 | 5 => [99, 117, 108, 118, 101, 114, 116, 58, 32, 108, 101, 115, 115, 32, 116, 104, 97, 110, 32, 105, 115, 32, 116, 97, 107, 101, 110, 32, 97, 119, 97, 121]
 | 6 => [99, 117, 108, 118, 101, 114, 116, 58, 32, 110, 111, 32, 114, 111, 111, 109]
 | 7 => [99, 117, 108, 118, 101, 114, 116, 58, 32, 110, 111, 116, 104, 105, 110, 103, 32, 116, 104, 101, 114, 101]
 | 8 => [99, 117, 108, 118, 101, 114, 116, 58, 32, 116, 104, 101, 114, 101, 32, 97, 108, 114, 101, 97, 100, 121]
 | 9 => [99, 117, 108, 118, 101, 114, 116, 58, 32, 110, 111, 116, 32, 116, 104, 101, 114, 101]
 | 10 => [99, 117, 108, 118, 101, 114, 116, 58, 32, 97, 32, 99, 111, 110, 102, 105, 103, 117, 114, 97, 116, 105, 111, 110, 32, 116, 104, 97, 116, 32, 109, 97, 121, 32, 110, 111, 116, 32, 98, 101]
 | 11 => [99, 117, 108, 118, 101, 114, 116, 58, 32, 97, 110, 111, 116, 104, 101, 114, 32, 118, 101, 114, 115, 105, 111, 110, 32, 116, 104, 97, 110, 32, 48]
 | 12 => [99, 117, 108, 118, 101, 114, 116, 58, 32, 110, 111, 32, 116, 121, 112, 101, 32, 111, 102, 32, 102, 114, 97, 109, 101]
 | 13 => [99, 117, 108, 118, 101, 114, 116, 58, 32, 102, 108, 97, 103, 115, 32, 116, 104, 97, 116, 32, 116, 104, 101, 32, 116, 121, 112, 101, 32, 109, 97, 121, 32, 110, 111, 116, 32, 104, 97, 118, 101]
 | 14 => [99, 117, 108, 118, 101, 114, 116, 58, 32, 97, 32, 115, 116, 114, 101, 97, 109, 39, 115, 32, 110, 117, 109, 98, 101, 114, 32, 116, 104, 97, 116, 32, 116, 104, 101, 32, 116, 121, 112, 101, 32, 109, 97, 121, 32, 110, 111, 116, 32, 104, 97, 118, 101]
 | 15 => [99, 117, 108, 118, 101, 114, 116, 58, 32, 97, 32, 108, 101, 110, 103, 116, 104, 32, 116, 104, 97, 116, 32, 109, 97, 121, 32, 110, 111, 116, 32, 98, 101]
 | 16 => [99, 117, 108, 118, 101, 114, 116, 58, 32, 109, 111, 114, 101, 32, 98, 121, 116, 101, 115, 32, 116, 104, 97, 110, 32, 116, 104, 101, 32, 119, 105, 110, 100, 111, 119, 32, 104, 97, 115]
 | 17 => [99, 117, 108, 118, 101, 114, 116, 58, 32, 97, 32, 99, 114, 101, 100, 105, 116, 32, 97, 98, 111, 118, 101, 32, 116, 104, 101, 32, 119, 105, 110, 100, 111, 119]
 | 18 => [99, 117, 108, 118, 101, 114, 116, 58, 32, 97, 32, 115, 116, 114, 101, 97, 109, 32, 111, 102, 32, 116, 104, 101, 32, 111, 116, 104, 101, 114, 32, 101, 110, 100, 39, 115, 32, 112, 97, 114, 105, 116, 121]
 | 19 => [99, 117, 108, 118, 101, 114, 116, 58, 32, 97, 32, 115, 116, 114, 101, 97, 109, 39, 115, 32, 110, 117, 109, 98, 101, 114, 32, 102, 111, 114, 32, 116, 104, 101, 32, 115, 101, 99, 111, 110, 100, 32, 116, 105, 109, 101]
 | 20 => [99, 117, 108, 118, 101, 114, 116, 58, 32, 97, 32, 115, 116, 114, 101, 97, 109, 32, 116, 104, 97, 116, 32, 119, 97, 115, 32, 110, 101, 118, 101, 114, 32, 111, 112, 101, 110, 101, 100]
 | 21 => [99, 117, 108, 118, 101, 114, 116, 58, 32, 109, 111, 114, 101, 32, 116, 104, 97, 110, 32, 116, 104, 101, 32, 111, 116, 104, 101, 114, 32, 101, 110, 100, 32, 109, 97, 121, 32, 97, 115, 107]
 | 22 => [99, 117, 108, 118, 101, 114, 116, 58, 32, 97, 110, 32, 97, 110, 115, 119, 101, 114, 32, 116, 111, 32, 110, 111, 32, 112, 105, 110, 103]
 | 23 => [99, 117, 108, 118, 101, 114, 116, 58, 32, 97, 110, 32, 101, 118, 101, 110, 116, 32, 116, 104, 97, 116, 32, 116, 104, 101, 32, 115, 116, 97, 116, 101, 32, 100, 111, 101, 115, 32, 110, 111, 116, 32, 104, 97, 118, 101]
 | 24 => [99, 117, 108, 118, 101, 114, 116, 58, 32, 99, 108, 111, 115, 101, 100, 32, 97, 116, 32, 116, 104, 105, 115, 32, 101, 110, 100]
 | 25 => [99, 117, 108, 118, 101, 114, 116, 58, 32, 101, 110, 100, 32, 111, 102, 32, 115, 116, 114, 101, 97, 109]
 | 26 => [99, 117, 108, 118, 101, 114, 116, 58, 32, 114, 101, 115, 101, 116, 32, 98, 121, 32, 116, 104, 101, 32, 111, 116, 104, 101, 114, 32, 101, 110, 100]
 | 27 => [99, 117, 108, 118, 101, 114, 116, 58, 32, 116, 104, 101, 32, 99, 111, 110, 110, 101, 99, 116, 105, 111, 110, 32, 119, 97, 115, 32, 99, 117, 116]
 | 28 => [99, 117, 108, 118, 101, 114, 116, 58, 32, 116, 104, 101, 32, 111, 116, 104, 101, 114, 32, 101, 110, 100, 32, 98, 114, 111, 107, 101, 32, 116, 104, 101, 32, 112, 114, 111, 116, 111, 99, 111, 108]
 | 29 => [99, 117, 108, 118, 101, 114, 116, 58, 32, 116, 104, 101, 32, 111, 116, 104, 101, 114, 32, 101, 110, 100, 32, 103, 97, 118, 101, 32, 117, 112]
 | 30 => [99, 117, 108, 118, 101, 114, 116, 58, 32, 116, 104, 101, 32, 111, 116, 104, 101, 114, 32, 101, 110, 100, 32, 103, 111, 101, 115, 32, 97, 119, 97, 121]
 | 31 => [99, 117, 108, 118, 101, 114, 116, 58, 32, 97, 115, 32, 109, 97, 110, 121, 32, 97, 115, 32, 116, 104, 101, 114, 101, 32, 109, 97, 121, 32, 98, 101]
 | 32 => [99, 117, 108, 118, 101, 114, 116, 58, 32, 110, 111, 32, 110, 117, 109, 98, 101, 114, 32, 105, 115, 32, 108, 101, 102, 116]
 | 33 => [99, 117, 108, 118, 101, 114, 116, 58, 32, 110, 111, 32, 115, 117, 99, 104, 32, 115, 116, 114, 101, 97, 109]
 | 34 => [99, 117, 108, 118, 101, 114, 116, 58, 32, 103, 111, 111, 100, 32, 102, 111, 114, 32, 110, 111, 116, 104, 105, 110, 103, 32, 97, 110, 121, 32, 109, 111, 114, 101]
 | 35 => [99, 117, 108, 118, 101, 114, 116, 58, 32, 110, 111, 32, 115, 117, 99, 104, 32, 99, 111, 110, 110, 101, 99, 116, 105, 111, 110, 44, 32, 111, 114, 32, 110, 111, 110, 101, 32, 116, 104, 97, 116, 32, 108, 105, 118, 101, 115]
 | 36 => [99, 117, 108, 118, 101, 114, 116, 58, 32, 97, 108, 108, 32, 99, 111, 110, 110, 101, 99, 116, 105, 111, 110, 115, 32, 116, 104, 97, 116, 32, 108, 105, 118, 101, 32, 97, 114, 101, 32, 103, 111, 105, 110, 103, 32, 97, 119, 97, 121]
 | 37 => [99, 117, 108, 118, 101, 114, 116, 58, 32, 116, 104, 101, 32, 99, 111, 110, 110, 101, 99, 116, 105, 111, 110, 32, 108, 105, 118, 101, 115]
 | 38 => [99, 117, 108, 118, 101, 114, 116, 58, 32, 110, 111, 32, 115, 117, 99, 104, 32, 104, 97, 110, 100, 108, 101]
 | 39 => [99, 117, 108, 118, 101, 114, 116, 58, 32, 110, 111, 116, 32, 119, 104, 97, 116, 32, 119, 97, 115, 32, 119, 114, 105, 116, 116, 101, 110]
 | 40 => [99, 117, 108, 118, 101, 114, 116, 58, 32, 110, 111, 32, 119, 111, 114, 100, 32, 111, 102, 32, 97, 32, 99, 111, 109, 109, 97, 110, 100]
 | 41 => [99, 117, 108, 118, 101, 114, 116, 58, 32, 97, 110, 32, 97, 114, 103, 117, 109, 101, 110, 116, 32, 116, 104, 97, 116, 32, 109, 97, 121, 32, 110, 111, 116, 32, 98, 101]
 | 42 => [99, 117, 108, 118, 101, 114, 116, 58, 32, 116, 111, 111, 32, 109, 97, 110, 121, 32, 111, 114, 32, 116, 111, 111, 32, 102, 101, 119, 32, 97, 114, 103, 117, 109, 101, 110, 116, 115]
 | _ => []
def sgb : Nat → Nat
 | 1 => 9
 | 2 => 8
 | 3 => 11
 | 4 => 12
 | 5 => 13
 | 6 => 14
 | 7 => 15
 | 8 => 16
 | 9 => 17
 | 10 => 18
 | 11 => 3
 | 12 => 4
 | 13 => 6
 | 14 => 7
 | 15 => 0
 | 16 => 19
 | 17 => 20
 | 18 => 21
 | 19 => 22
 | 20 => 23
 | 21 => 24
 | 22 => 25
 | 23 => 26
 | 24 => 27
 | 25 => 28
 | 26 => 29
 | 27 => 30
 | 28 => 31
 | 29 => 32
 | 30 => 33
 | 31 => 34
 | 32 => 35
 | 33 => 36
 | 34 => 37
 | 35 => 38
 | 36 => 39
 | 37 => 40
 | 38 => 41
 | 39 => 42
 | 40 => 1
 | 41 => 2
 | 42 => 43
 | _ => 0
def inG (_n : Nat) : Bool := true
structure Good (w : World) (sa : Nat → Addr) : Prop where
 at_ : ∀ n, 1 ≤ n → n ≤ 42 → (_ : inG n = true := by first | rfl | assumption) → SentAt w 253 (sgb n) (sa n)
 ne : ∀ n m, 1 ≤ n → n ≤ 42 → 1 ≤ m → m ≤ 42 → n ≠ m → (_ : inG n = true := by first | rfl | assumption) → (_ : inG m = true := by first | rfl | assumption) → sa n ≠ sa m
theorem Good.below {w w' : World} {sa : Nat → Addr} (h : Good w sa) (hb : Below w.heap.size w w') : Good w' sa :=
 ⟨fun n h1 h2 h3 => (h.at_ n h1 h2 h3).below (h.at_ n h1 h2 h3).glt (h.at_ n h1 h2 h3).alt hb, fun n m a b c d e f g => h.ne n m a b c d e f g⟩
def EV (sa : Nat → Addr) (w : World) (c : Nat) (s : Int) (v : Value) : Prop :=
 (c = 0 ∧ v = .nilIface) ∨ (1 ≤ c ∧ c ≤ 42 ∧ v = sv (sa c)) ∨
 (1000 < c ∧ c ≤ 1042 ∧ c ≠ 1028 ∧ ∃ b o, v = vv b o ∧ w.cell? ⟨b, o, none⟩ = some (.int .u32 s) ∧ w.cell? ⟨b, o + 1, none⟩ = some (sv (sa (c - 1000))))
def isB (c n : Nat) : Bool := c == n || c == 1000 + n || (decide (1000 < c) && n == 28)
set_option maxHeartbeats 2000000 in
theorem sentinel_any (sa : Nat → Addr) (n : Int) (w : World) (hG : Good w sa) (h1 : 1 ≤ n) (h2 : n ≤ 42) :
    Calls Tryz.prog 52 #[.int .i64 n] w fun e w' => e = .returned (sv (sa n.toNat)) ∧ w' = w := by
 have g1 : w.cell? ⟨9, 0, none⟩ = some (sv (sa 1)) := (hG.at_ 1 (by omega) (by omega)).glob
 have g2 : w.cell? ⟨8, 0, none⟩ = some (sv (sa 2)) := (hG.at_ 2 (by omega) (by omega)).glob
 have g3 : w.cell? ⟨11, 0, none⟩ = some (sv (sa 3)) := (hG.at_ 3 (by omega) (by omega)).glob
 have g4 : w.cell? ⟨12, 0, none⟩ = some (sv (sa 4)) := (hG.at_ 4 (by omega) (by omega)).glob
 have g5 : w.cell? ⟨13, 0, none⟩ = some (sv (sa 5)) := (hG.at_ 5 (by omega) (by omega)).glob
 have g6 : w.cell? ⟨14, 0, none⟩ = some (sv (sa 6)) := (hG.at_ 6 (by omega) (by omega)).glob
 have g7 : w.cell? ⟨15, 0, none⟩ = some (sv (sa 7)) := (hG.at_ 7 (by omega) (by omega)).glob
 have g8 : w.cell? ⟨16, 0, none⟩ = some (sv (sa 8)) := (hG.at_ 8 (by omega) (by omega)).glob
 have g9 : w.cell? ⟨17, 0, none⟩ = some (sv (sa 9)) := (hG.at_ 9 (by omega) (by omega)).glob
 have g10 : w.cell? ⟨18, 0, none⟩ = some (sv (sa 10)) := (hG.at_ 10 (by omega) (by omega)).glob
 have g11 : w.cell? ⟨3, 0, none⟩ = some (sv (sa 11)) := (hG.at_ 11 (by omega) (by omega)).glob
 have g12 : w.cell? ⟨4, 0, none⟩ = some (sv (sa 12)) := (hG.at_ 12 (by omega) (by omega)).glob
 have g13 : w.cell? ⟨6, 0, none⟩ = some (sv (sa 13)) := (hG.at_ 13 (by omega) (by omega)).glob
 have g14 : w.cell? ⟨7, 0, none⟩ = some (sv (sa 14)) := (hG.at_ 14 (by omega) (by omega)).glob
 have g15 : w.cell? ⟨0, 0, none⟩ = some (sv (sa 15)) := (hG.at_ 15 (by omega) (by omega)).glob
 have g16 : w.cell? ⟨19, 0, none⟩ = some (sv (sa 16)) := (hG.at_ 16 (by omega) (by omega)).glob
 have g17 : w.cell? ⟨20, 0, none⟩ = some (sv (sa 17)) := (hG.at_ 17 (by omega) (by omega)).glob
 have g18 : w.cell? ⟨21, 0, none⟩ = some (sv (sa 18)) := (hG.at_ 18 (by omega) (by omega)).glob
 have g19 : w.cell? ⟨22, 0, none⟩ = some (sv (sa 19)) := (hG.at_ 19 (by omega) (by omega)).glob
 have g20 : w.cell? ⟨23, 0, none⟩ = some (sv (sa 20)) := (hG.at_ 20 (by omega) (by omega)).glob
 have g21 : w.cell? ⟨24, 0, none⟩ = some (sv (sa 21)) := (hG.at_ 21 (by omega) (by omega)).glob
 have g22 : w.cell? ⟨25, 0, none⟩ = some (sv (sa 22)) := (hG.at_ 22 (by omega) (by omega)).glob
 have g23 : w.cell? ⟨26, 0, none⟩ = some (sv (sa 23)) := (hG.at_ 23 (by omega) (by omega)).glob
 have g24 : w.cell? ⟨27, 0, none⟩ = some (sv (sa 24)) := (hG.at_ 24 (by omega) (by omega)).glob
 have g25 : w.cell? ⟨28, 0, none⟩ = some (sv (sa 25)) := (hG.at_ 25 (by omega) (by omega)).glob
 have g26 : w.cell? ⟨29, 0, none⟩ = some (sv (sa 26)) := (hG.at_ 26 (by omega) (by omega)).glob
 have g27 : w.cell? ⟨30, 0, none⟩ = some (sv (sa 27)) := (hG.at_ 27 (by omega) (by omega)).glob
 have g28 : w.cell? ⟨31, 0, none⟩ = some (sv (sa 28)) := (hG.at_ 28 (by omega) (by omega)).glob
 have g29 : w.cell? ⟨32, 0, none⟩ = some (sv (sa 29)) := (hG.at_ 29 (by omega) (by omega)).glob
 have g30 : w.cell? ⟨33, 0, none⟩ = some (sv (sa 30)) := (hG.at_ 30 (by omega) (by omega)).glob
 have g31 : w.cell? ⟨34, 0, none⟩ = some (sv (sa 31)) := (hG.at_ 31 (by omega) (by omega)).glob
 have g32 : w.cell? ⟨35, 0, none⟩ = some (sv (sa 32)) := (hG.at_ 32 (by omega) (by omega)).glob
 have g33 : w.cell? ⟨36, 0, none⟩ = some (sv (sa 33)) := (hG.at_ 33 (by omega) (by omega)).glob
 have g34 : w.cell? ⟨37, 0, none⟩ = some (sv (sa 34)) := (hG.at_ 34 (by omega) (by omega)).glob
 have g35 : w.cell? ⟨38, 0, none⟩ = some (sv (sa 35)) := (hG.at_ 35 (by omega) (by omega)).glob
 have g36 : w.cell? ⟨39, 0, none⟩ = some (sv (sa 36)) := (hG.at_ 36 (by omega) (by omega)).glob
 have g37 : w.cell? ⟨40, 0, none⟩ = some (sv (sa 37)) := (hG.at_ 37 (by omega) (by omega)).glob
 have g38 : w.cell? ⟨41, 0, none⟩ = some (sv (sa 38)) := (hG.at_ 38 (by omega) (by omega)).glob
 have g39 : w.cell? ⟨42, 0, none⟩ = some (sv (sa 39)) := (hG.at_ 39 (by omega) (by omega)).glob
 have g40 : w.cell? ⟨1, 0, none⟩ = some (sv (sa 40)) := (hG.at_ 40 (by omega) (by omega)).glob
 have g41 : w.cell? ⟨2, 0, none⟩ = some (sv (sa 41)) := (hG.at_ 41 (by omega) (by omega)).glob
 have g42 : w.cell? ⟨43, 0, none⟩ = some (sv (sa 42)) := (hG.at_ 42 (by omega) (by omega)).glob
 clear hG
 go_enter Tryz.func52, Tryz.ntmps52
 go_wp2
 all_goals (go_ret; refine ⟨?_, rfl⟩; rename_i hk; rw [show n = _ from by simpa using hk]; rfl)
theorem is_any {sa : Nat → Addr} {w : World} {c : Nat} {s : Int} {v : Value} (hG : Good w sa) (hE : EV sa w c s v) (n : Nat) (h1 : 1 ≤ n) (h2 : n ≤ 42) (hc : 1 ≤ c → c ≤ 42 → inG c = true := by intros; first | rfl | assumption | omega) (hd : 1000 < c → inG (c - 1000) = true := by intros; first | rfl | assumption | omega) (hn : inG n = true := by first | rfl | assumption) (h28 : 1000 < c → inG 28 = true := by intros; first | rfl | assumption | omega) :
    Calls Tryz.prog 51 #[v, sv (sa n)] w fun e w' => e = .returned (.bool (isB c n)) ∧ w' = w := by
 obtain ⟨cn, tn, rn⟩ := (hG.at_ n h1 h2 hn).row
 rcases hE with ⟨rfl, rfl⟩ | ⟨c1, c2, rfl⟩ | ⟨c1, c2, c3, b, o, rfl, hs, hw⟩
 · have e : isB 0 n = false := by simp [isB]; omega
   rw [e]; exact is_nil _ _
 · obtain ⟨cc, tc, rc⟩ := (hG.at_ c c1 c2 (hc c1 c2)).row
   by_cases hcn : c = n
   · subst hcn
     have e : isB c c = true := by simp [isB]
     rw [e]; exact is_same _ _
   · have e : isB c n = false := by simp [isB]; omega
     rw [e]; exact is_other _ _ _ _ _ _ _ (hG.ne c n c1 c2 h1 h2 hcn (hc c1 c2) hn) rc rn
 · have h28' := h28 c1
   obtain ⟨cp, tp, rp⟩ := (hG.at_ 28 (by omega) (by omega) h28').row
   have gp : w.cell? ⟨31, 0, none⟩ = some (sv (sa 28)) := (hG.at_ 28 (by omega) (by omega) h28').glob
   obtain ⟨cc, tc, rc⟩ := (hG.at_ (c - 1000) (by omega) (by omega) (hd c1)).row
   by_cases hn28 : n = 28
   · subst hn28
     have e : isB c 28 = true := by simp [isB]; omega
     rw [e]; exact isv_protocol _ _ _ _ gp
   · have hne := hG.ne n 28 h1 h2 (by omega) (by omega) hn28 hn h28'
     by_cases hcn : c = 1000 + n
     · subst hcn
       have e : isB (1000 + n) n = true := by simp [isB]
       rw [Nat.add_sub_cancel_left] at hw
       rw [e]; exact isv_why _ _ _ _ _ _ _ _ _ gp hne rn rp hw
     · have e : isB c n = false := by simp [isB]; omega
       rw [e]; exact isv_other _ _ _ _ _ _ _ _ _ _ _ _ gp hne (hG.ne (c - 1000) n (by omega) (by omega) h1 h2 (by omega) (hd c1) hn) rn rp rc hw
end Go.Proofs.YtidmgckmphcegaaGreatDoor
/-
 culvertlaw01.Code: the number of an error.
-/
namespace Go.Proofs.YtidmgckmphcegaaGreatDoor
open Go.RowKit
set_option linter.unusedVariables false
theorem EV.iface {sa : Nat → Addr} {w : World} {c : Nat} {s : Int} {v : Value} (hE : EV sa w c s v) (h0 : 0 < c) : ∃ T x, v = .iface T x := by
 rcases hE with ⟨rfl, rfl⟩ | ⟨c1, c2, rfl⟩ | ⟨c1, c2, c3, b, o, rfl, _, _⟩
 · omega
 · exact ⟨_, _, rfl⟩
 · exact ⟨_, _, rfl⟩
def cK (c : Nat) : Nat := if 1000 < c then c - 1000 else c
def cF (c m : Nat) : Int := if cK c ≠ 28 ∧ cK c ≤ m then 1 else 0
def cW (c m : Nat) : Int := if cK c ≠ 28 ∧ cK c ≤ m then cK c else 0
def cB (c m : Nat) : Bool := (decide (1000 < c) || c == 28) && decide (28 ≤ m)
def cOK (c : Nat) : Prop := (1 ≤ c ∧ c ≤ 42) ∨ (1000 < c ∧ c ≤ 1042 ∧ c ≠ 1028)
theorem EV.ok {sa : Nat → Addr} {w : World} {c : Nat} {s : Int} {v : Value} (hE : EV sa w c s v) (h0 : 0 < c) : cOK c := by
 rcases hE with ⟨rfl, rfl⟩ | ⟨c1, c2, rfl⟩ | ⟨c1, c2, c3, _⟩
 · omega
 · exact .inl ⟨c1, c2⟩
 · exact .inr ⟨c1, c2, c3⟩
theorem cK_ok {c : Nat} (h : cOK c) : 1 ≤ cK c ∧ cK c ≤ 42 := by unfold cOK at h; unfold cK; split <;> omega
theorem isB_true {c n : Nat} (h : cOK c) (h1 : 1 ≤ n) (h2 : n ≤ 42) (hn : n ≠ 28) : isB c n = true ↔ cK c = n := by
 unfold cOK at h; unfold isB cK
 simp only [Bool.or_eq_true, beq_iff_eq, Bool.and_eq_true, decide_eq_true_eq]
 split <;> omega
theorem isB_28 {c : Nat} (h : cOK c) : isB c 28 = (decide (1000 < c) || c == 28) := by
 unfold cOK at h; unfold isB
 rw [Bool.eq_iff_iff]
 simp only [Bool.or_eq_true, beq_iff_eq, Bool.and_eq_true, decide_eq_true_eq, and_true]
 omega
theorem c_zero {c : Nat} (h : cOK c) : cF c 0 = 0 ∧ cW c 0 = 0 ∧ cB c 0 = false := by
 have := cK_ok h
 refine ⟨if_neg (by omega), if_neg (by omega), by simp [cB]⟩
theorem c_keep {c m : Nat} (hc : cK c ≠ m + 1 ∨ cK c = 28) : cF c (m + 1) = cF c m ∧ cW c (m + 1) = cW c m := by
 unfold cF cW
 by_cases h : cK c ≠ 28 ∧ cK c ≤ m
 · rw [if_pos h, if_pos h, if_pos ⟨h.1, by omega⟩, if_pos ⟨h.1, by omega⟩]; exact ⟨rfl, rfl⟩
 · rw [if_neg h, if_neg h, if_neg (by omega), if_neg (by omega)]; exact ⟨rfl, rfl⟩
theorem cB_keep {c m : Nat} (hm : m + 1 ≠ 28) : cB c (m + 1) = cB c m := by
 unfold cB
 congr 1
 simp only [decide_eq_decide]; omega
theorem c_miss {c m : Nat} (h : cOK c) (h2 : m + 1 ≤ 42) (hb : (!isB c (m + 1)) = true) : cF c (m + 1) = cF c m ∧ cW c (m + 1) = cW c m ∧ cB c (m + 1) = cB c m := by
 have hb' : isB c (m + 1) = false := by simpa using hb
 by_cases h28 : m + 1 = 28
 · obtain rfl : m = 27 := by omega
   rw [isB_28 h] at hb'
   have hk : cK c ≠ 28 := by
    unfold cOK at h; unfold cK
    simp only [Bool.or_eq_false_iff, decide_eq_false_iff_not, beq_eq_false_iff_ne] at hb'
    split <;> omega
   have := c_keep (c := c) (m := 27) (.inl (by omega))
   exact ⟨this.1, this.2, by unfold cB; rw [hb']; rfl⟩
 · have hk : cK c ≠ m + 1 := fun e => by
     have := (isB_true h (by omega) h2 h28).2 e
     rw [hb'] at this; cases this
   have := c_keep (c := c) (m := m) (.inl hk)
   exact ⟨this.1, this.2, cB_keep h28⟩
theorem c_28 {c m : Nat} (h : cOK c) (hb : (!isB c (m + 1)) = false) (h28 : m + 1 = 28) : cF c (m + 1) = cF c m ∧ cW c (m + 1) = cW c m ∧ cB c (m + 1) = true := by
 obtain rfl : m = 27 := by omega
 have hb' : isB c 28 = true := by simpa using hb
 rw [isB_28 h] at hb'
 have hk : cK c ≠ 27 + 1 ∨ cK c = 28 := by omega
 have := c_keep (c := c) (m := 27) hk
 exact ⟨this.1, this.2, by unfold cB; rw [hb']; rfl⟩
theorem c_hit {c m : Nat} (h : cOK c) (h2 : m + 1 ≤ 42) (hb : (!isB c (m + 1)) = false) (h28 : m + 1 ≠ 28) : cF c m = 0 ∧ cF c (m + 1) = 1 ∧ cW c (m + 1) = ((m + 1 : Nat) : Int) ∧ cB c (m + 1) = cB c m := by
 have hb' : isB c (m + 1) = true := by simpa using hb
 have hk := (isB_true h (by omega) h2 h28).1 hb'
 refine ⟨if_neg (by omega), if_pos (by omega), ?_, cB_keep h28⟩
 unfold cW; rw [if_pos (by omega), hk]
theorem wrap_one : wrap64 (0 + 1) = 1 := by unfold wrap64; omega
theorem wrap_small {x : Int} (h0 : -9223372036854775808 ≤ x) (h1 : x ≤ 9223372036854775807) : wrap64 x = x := by unfold wrap64; omega
theorem ret_bool {a b : Bool} (h : a = b) : Ending.returned (.bool a) = .returned (.bool b) := by rw [h]
theorem ret_int {k : IntKind} {a b : Int} (h : a = b) : Ending.returned (.int k a) = .returned (.int k b) := by rw [h]
theorem c_F {c : Nat} (h : cOK c) : cF c 42 = if cK c = 28 then 0 else 1 := by
 have := cK_ok h
 unfold cF
 by_cases h28 : cK c = 28
 · rw [if_neg (by omega), if_pos h28]
 · rw [if_pos (by omega), if_neg h28]
theorem cK_big {c : Nat} (h : 1000 < c) : cK c = c - 1000 := if_pos h
theorem cK_small {c : Nat} (h : ¬ 1000 < c) : cK c = c := if_neg h
theorem c_yy {c : Nat} (h : cOK c) (hf : cF c 42 = 1) (hb : cB c 42 = true) : 1000 + cW c 42 = (c : Int) ∧ 0 ≤ cW c 42 ∧ cW c 42 ≤ 42 := by
 rw [c_F h] at hf
 have hk := cK_ok h
 have hn : cK c ≠ 28 := fun e => by rw [if_pos e] at hf; cases hf
 have e : cW c 42 = cK c := by unfold cW; rw [if_pos (by omega)]
 rw [e]
 unfold cB at hb
 simp only [Bool.and_eq_true, Bool.or_eq_true, decide_eq_true_eq, beq_iff_eq] at hb
 unfold cOK at h
 by_cases hc : 1000 < c
 · rw [cK_big hc] at *; omega
 · rw [cK_small hc] at *; omega
theorem c_yn {c : Nat} (h : cOK c) (hf : cF c 42 = 1) (hb : cB c 42 = false) : cW c 42 = (c : Int) := by
 rw [c_F h] at hf
 have hk := cK_ok h
 have hn : cK c ≠ 28 := fun e => by rw [if_pos e] at hf; cases hf
 have e : cW c 42 = cK c := by unfold cW; rw [if_pos (by omega)]
 rw [e]
 have hc : ¬ 1000 < c := fun hc => by
  have e : cB c 42 = true := by simp [cB, hc]
  rw [e] at hb; cases hb
 rw [cK_small hc]
theorem c_ny {c : Nat} (h : cOK c) (hf : cF c 42 ≠ 1) : (c : Int) = 28 := by
 rw [c_F h] at hf
 have hn : cK c = 28 := by by_cases e : cK c = 28; exact e; rw [if_neg e] at hf; exact absurd rfl hf
 unfold cOK at h; unfold cK at hn
 split at hn <;> omega
theorem c_nb {c : Nat} (h : cOK c) (hf : cF c 42 ≠ 1) : cF c 42 = 0 ∧ cB c 42 = true := by
 have e := c_ny h hf
 obtain rfl : c = 28 := by omega
 exact ⟨rfl, rfl⟩
set_option maxHeartbeats 800000 in
theorem code_err {sa : Nat → Addr} {w : World} {c : Nat} {s : Int} {v : Value} (hG : Good w sa) (hE : EV sa w c s v) (h0 : 0 < c) :
    Calls Tryz.prog 19 #[v] w fun e w' => e = .returned (.int .i64 c) ∧ w' = w := by
 obtain ⟨T, x, rfl⟩ := hE.iface h0
 have HK := Lib.hid (hE.ok h0)
 have HE := Lib.hid hE
 have HG := Lib.hid hG
 clear hE hG
 go_enter Tryz.func19, Tryz.ntmps19
 go_wp2_with fail
 go_loop [3, 4, 5, 6] (fun f y b n => ∃ m : Nat, m ≤ 42 ∧ n = .int .i64 (m + 1 : Nat) ∧ f = .int .i64 (cF c m) ∧ y = .int .i64 (cW c m) ∧ b = .bool (cB c m)) (fun _ _ _ n => 43 - (intOf n).toNat)
 case atStart =>
  obtain ⟨e1, e2, e3⟩ := c_zero HK.out
  exact ⟨0, by omega, rfl, by rw [e1], by rw [e2], by rw [e3]⟩
 case round =>
  obtain ⟨m, hm, rfl, rfl, rfl, rfl⟩ := hrel
  by_cases hlt : m < 42
  · have hS := Lib.hid (sentinel_any sa ((m + 1 : Nat) : Int) w HG.out (by omega) (by omega))
    have hI := Lib.hid (is_any HG.out HE.out (m + 1) (by omega) (by omega))
    go_wp2_with (first | (go_at_call 52; refine hS.out.mono ?_; rintro e w1 ⟨rfl, rfl⟩) | (go_at_call 51; refine hI.out.mono ?_; rintro e w1 ⟨rfl, rfl⟩))
    · have hb : (!isB c (m + 1)) = true := by assumption
      obtain ⟨e1, e2, e3⟩ := c_miss HK.out hlt hb
      go_round
      case rel => exact ⟨m + 1, by omega, by go_num, by rw [e1], by rw [e2], by rw [e3]⟩
      case measure => simp [intOf]; omega
    · have hb : (!isB c (m + 1)) = false := by assumption
      have h28 : ((m : Int) + 1 == 28) = true := by assumption
      obtain ⟨e1, e2, e3⟩ := c_28 HK.out hb (by simp only [beq_iff_eq] at h28; omega)
      go_round
      case rel => exact ⟨m + 1, by omega, by go_num, by rw [e1], by rw [e2], by rw [e3]⟩
      case measure => simp [intOf]; omega
    · have hb : (!isB c (m + 1)) = false := by assumption
      have h28 : ((m : Int) + 1 == 28) = false := by assumption
      obtain ⟨e0, e1, e2, e3⟩ := c_hit HK.out hlt hb (by simp only [beq_eq_false_iff_ne] at h28; omega)
      go_round
      case rel => exact ⟨m + 1, by omega, by go_num, by rw [e1, e0, wrap_one], by rw [e2]; go_num, by rw [e3]⟩
      case measure => simp [intOf]; omega
  · obtain rfl : m = 42 := by omega
    clear hlt hm
    have hy := fun h h' => (c_yy HK.out h h')
    have hyn := fun h h' => (c_yn HK.out h h')
    have hny := fun h => (c_ny HK.out h)
    have hnb := fun h => (c_nb HK.out h)
    have Hy := Lib.hid hy
    have Hyn := Lib.hid hyn
    have Hny := Lib.hid hny
    have Hnb := Lib.hid hnb
    clear hy hyn hny hnb
    go_wp2_with fail
    · have hf : cF c 42 = 1 := by assumption
      have hb : cB c 42 = true := by assumption
      obtain ⟨e1, e2, e3⟩ := Hy.out hf hb
      go_ret
      exact ⟨ret_int (by rw [wrap_small (by omega) (by omega)]; exact e1), rfl⟩
    · have hf : cF c 42 = 1 := by assumption
      have hb : cB c 42 = false := by assumption
      go_ret
      exact ⟨ret_int (Hyn.out hf hb), rfl⟩
    · have hf : ¬ cF c 42 = 1 := by assumption
      go_ret
      exact ⟨ret_int (Hny.out hf).symm, rfl⟩
    · have hf : ¬ cF c 42 = 1 := by assumption
      have hb : cB c 42 = false := by assumption
      rw [(Hnb.out hf).2] at hb; cases hb
    · have hf : ¬ cF c 42 = 1 := by assumption
      exact absurd (Hnb.out hf).1 (by assumption)
theorem code_nil (w : World) : Calls Tryz.prog 19 #[.nilIface] w fun e w' => e = .returned (.int .i64 0) ∧ w' = w := by
 go_enter Tryz.func19, Tryz.ntmps19
 go_wp2
 go_ret
 exact ⟨rfl, rfl⟩
theorem code_any {sa : Nat → Addr} {w : World} {c : Nat} {s : Int} {v : Value} (hG : Good w sa) (hE : EV sa w c s v) :
    Calls Tryz.prog 19 #[v] w fun e w' => e = .returned (.int .i64 c) ∧ w' = w := by
 by_cases h0 : 0 < c
 · exact code_err hG hE h0
 · obtain rfl : c = 0 := by omega
   rcases hE with ⟨_, rfl⟩ | ⟨c1, _, _⟩ | ⟨c1, _, _, _⟩
   · exact code_nil w
   · omega
   · omega
end Go.Proofs.YtidmgckmphcegaaGreatDoor
/-
 num's bytes: Bytes16, Bytes32, Get16, Get32.
-/
namespace Go.Proofs.YtidmgckmphcegaaGreatDoor
open Go.RowKit
set_option linter.unusedVariables false
set_option linter.unusedSimpArgs false
def Dr (w w' : World) : Prop := ∃ q, w' = w.drewN q
theorem Dr.heap {w w' : World} (h : Dr w w') : w'.heap = w.heap := by obtain ⟨q, rfl⟩ := h; rfl
theorem Dr.below {w w' : World} (h : Dr w w') (B : Nat) : Below B w w' := by obtain ⟨q, rfl⟩ := h; exact ⟨rfl, rfl, rfl, Nat.le_refl _, fun _ _ => rfl⟩
theorem Dr.blk {w w' : World} (h : Dr w w') (k : Nat) : w'.heap[k]? = w.heap[k]? := by rw [h.heap]
theorem Dr.undrew {w w' : World} (h : Dr w.drew w') : Dr w w' := by
 obtain ⟨q, rfl⟩ := h
 exact ⟨1 + q, World.drewN_drew ..⟩
def nums (k : IntKind) (xs : List Int) : List Value := xs.map fun x => .int k x
theorem nums_length (k : IntKind) (xs : List Int) : (nums k xs).length = xs.length := by simp [nums]
theorem nums_append (k : IntKind) (xs ys : List Int) : nums k (xs ++ ys) = nums k xs ++ nums k ys := by simp [nums]
theorem u8_info : (Tryz.prog.info? 5).map (fun i => (i.zero, i.size, i.bytes)) = some (some (.int .u8 0), 1, 1) := by kernel_rfl
theorem u8_size : (Tryz.prog.info? 5).map (·.size) = some 1 := by kernel_rfl
theorem own_block {w : World} {base g : Nat} {e : TypeId} {cs : Array Value} {n : Nat} {xs : List Value} (hg : base ≤ g) (h : w.heap[g]? = some (.cells cs e (0, 0))) (hx : cs.toList = xs) (hn : xs.length = n) (hm : n ≤ maxLen) :
    w.ownsRow base e 1 (.slice (some ⟨g, 0, none⟩) n n) n xs := by
 refine ⟨by omega, .inr ⟨g, n, cs, rfl, hg, h, Nat.le_refl _, hm, ?_, ?_⟩⟩
 · have : cs.size = xs.length := by rw [← hx]; simp
   omega
 · rw [hx, List.take_of_length_le (by omega)]
theorem alloc_at (w : World) (o : Obj) : (w.alloc o).heap[w.heap.size]? = some o := by
 show (w.heap.push o)[w.heap.size]? = _
 simp
theorem alloc_at2 (w : World) (o1 o2 : Obj) : ((w.alloc o1).alloc o2).heap[w.heap.size + 1]? = some o2 := by
 have := alloc_at (w.alloc o1) o2
 rwa [World.size_alloc] at this
theorem copy_new2 (w : World) (x y : Int) (T : TypeId) :
    (Builtin.copy_ #[26, 26] 3 #[.slice (some ⟨w.heap.size + 1, 0, none⟩) 2 2, .slice (some ⟨w.heap.size, 0, none⟩) 2 2]).run Tryz.prog ((w.alloc (.cells #[.int .u8 x, .int .u8 y] T)).alloc (.cells #[.int .u8 0, .int .u8 0] 5)) =
     .ok (.int .i64 2) ((w.alloc (.cells #[.int .u8 x, .int .u8 y] T)).alloc (.cells #[.int .u8 x, .int .u8 y] 5)) := by
 have h := run_copy_cells (P := Tryz.prog) ((w.alloc (.cells #[.int .u8 x, .int .u8 y] T)).alloc (.cells #[.int .u8 0, .int .u8 0] 5)) 26 26 3 5 (w.heap.size + 1) 0 2 2 ⟨w.heap.size, 0, none⟩ 2 2 [.int .u8 x, .int .u8 y]
  Tryz.underlying26 u8_size rfl ?_ ?_ ?_ (by intro u hu; simp at hu; rcases hu with rfl | rfl <;> rfl)
 · rw [h]
   simp [World.setCells, World.setCell_alloc_at, goInt]
 · intro j v hv
   match j, hv with
   | 0, hv => simp at hv; subst hv; simp [Addr.add, World.cell?_alloc_past, World.cell?_alloc_at]
   | 1, hv => simp at hv; subst hv; simp [Addr.add, World.cell?_alloc_past, World.cell?_alloc_at]
 · intro j hj
   match j, hj with
   | 0, _ => simp [World.cell?_alloc_at]
   | 1, _ => simp [World.cell?_alloc_at]
 · intro j hj
   rw [World.frozen?_alloc_at _ _ _ _ (by simp)]
theorem copy_new4 (w : World) (x y z t : Int) (T : TypeId) :
    (Builtin.copy_ #[26, 26] 3 #[.slice (some ⟨w.heap.size + 1, 0, none⟩) 4 4, .slice (some ⟨w.heap.size, 0, none⟩) 4 4]).run Tryz.prog ((w.alloc (.cells #[.int .u8 x, .int .u8 y, .int .u8 z, .int .u8 t] T)).alloc (.cells #[.int .u8 0, .int .u8 0, .int .u8 0, .int .u8 0] 5)) =
     .ok (.int .i64 4) ((w.alloc (.cells #[.int .u8 x, .int .u8 y, .int .u8 z, .int .u8 t] T)).alloc (.cells #[.int .u8 x, .int .u8 y, .int .u8 z, .int .u8 t] 5)) := by
 have h := run_copy_cells (P := Tryz.prog) ((w.alloc (.cells #[.int .u8 x, .int .u8 y, .int .u8 z, .int .u8 t] T)).alloc (.cells #[.int .u8 0, .int .u8 0, .int .u8 0, .int .u8 0] 5)) 26 26 3 5 (w.heap.size + 1) 0 4 4 ⟨w.heap.size, 0, none⟩ 4 4 [.int .u8 x, .int .u8 y, .int .u8 z, .int .u8 t]
  Tryz.underlying26 u8_size rfl ?_ ?_ ?_ (by intro u hu; simp at hu; rcases hu with rfl | rfl | rfl | rfl <;> rfl)
 · rw [h]
   simp [World.setCells, World.setCell_alloc_at, goInt]
 · intro j v hv
   match j, hv with
   | 0, hv => simp at hv; subst hv; simp [Addr.add, World.cell?_alloc_past, World.cell?_alloc_at]
   | 1, hv => simp at hv; subst hv; simp [Addr.add, World.cell?_alloc_past, World.cell?_alloc_at]
   | 2, hv => simp at hv; subst hv; simp [Addr.add, World.cell?_alloc_past, World.cell?_alloc_at]
   | 3, hv => simp at hv; subst hv; simp [Addr.add, World.cell?_alloc_past, World.cell?_alloc_at]
 · intro j hj
   match j, hj with
   | 0, _ => simp [World.cell?_alloc_at]
   | 1, _ => simp [World.cell?_alloc_at]
   | 2, _ => simp [World.cell?_alloc_at]
   | 3, _ => simp [World.cell?_alloc_at]
 · intro j hj
   rw [World.frozen?_alloc_at _ _ _ _ (by simp)]
theorem ret_two {a b c d : Value} (h : a = b) (h' : c = d) : Ending.returned (.tuple #[a, c]) = .returned (.tuple #[b, d]) := by rw [h, h']
theorem or16 {x0 x1 : Int} (b0 : 0 ≤ x0) (b1 : x0 ≤ 255) (b2 : 0 ≤ x1) (b3 : x1 ≤ 255) : bits .or .u16 (x0 * 256) x1 = x0 * 256 + x1 := by
 rw [u16_or _ _ (by omega) (by omega) (by omega) (by omega), nat_join 8 _ _ (by omega) (by omega)]; omega
theorem or32 {x0 x1 x2 x3 : Int} (b0 : 0 ≤ x0) (b1 : x0 ≤ 255) (b2 : 0 ≤ x1) (b3 : x1 ≤ 255) (b4 : 0 ≤ x2) (b5 : x2 ≤ 255) (b6 : 0 ≤ x3) (b7 : x3 ≤ 255) :
    bits .or .u32 (bits .or .u32 (bits .or .u32 (x0 * 16777216) (x1 * 65536)) (x2 * 256)) x3 = x0 * 16777216 + x1 * 65536 + x2 * 256 + x3 := by
 have e1 : bits .or .u32 (x0 * 16777216) (x1 * 65536) = x0 * 16777216 + x1 * 65536 := by
  rw [u32_or _ _ (by omega) (by omega) (by omega) (by omega), nat_join 24 _ _ (by omega) (by omega)]; omega
 have e2 : bits .or .u32 (x0 * 16777216 + x1 * 65536) (x2 * 256) = x0 * 16777216 + x1 * 65536 + x2 * 256 := by
  rw [u32_or _ _ (by omega) (by omega) (by omega) (by omega), nat_join 16 _ _ (by omega) (by omega)]; omega
 rw [e1, e2, u32_or _ _ (by omega) (by omega) (by omega) (by omega), nat_join 8 _ _ (by omega) (by omega)]; omega
set_option maxRecDepth 100000 in
theorem bytes16_any (v : Int) (w : World) (h0 : 0 ≤ v) (h1 : v ≤ 65535) :
    Calls Tryz.prog 105 #[.int .u16 v] w fun e w' => ∃ g, e = .returned (.slice (some ⟨g, 0, none⟩) 2 2) ∧ w'.ownsRow w.heap.size 5 1 (.slice (some ⟨g, 0, none⟩) 2 2) 2 (nums .u8 [v / 256, v % 256]) ∧ Below w.heap.size w w' := by
 have hmk : ∀ w : World, (Instr.makeSlice 26 (.int .i64 2) (.int .i64 2)).run Tryz.prog w = .ok (.slice (some ⟨w.heap.size, 0, none⟩) 2 2) (w.alloc (.cells #[.int .u8 0, .int .u8 0] 5)) := fun _ => by kernel_rfl
 have hcp := copy_new2 w (v / 256) (v % 256) 210
 go_enter Tryz.func105, Tryz.ntmps105
 go_wp2_with fail
 go_ret
 refine ⟨_, rfl, own_block (by omega) ?_ rfl rfl (by unfold maxLen; omega), ((Below.refl _ _).alloc (Nat.le_refl _) _).alloc (by simp) _⟩
 have := alloc_at (w.alloc (.cells #[.int .u8 (v / 256), .int .u8 (v % 256)] 210)) (.cells #[.int .u8 (v / 256), .int .u8 (v % 256)] 5)
 simpa using this
set_option maxRecDepth 100000 in
theorem bytes32_any (v : Int) (w : World) (h0 : 0 ≤ v) (h1 : v ≤ 4294967295) :
    Calls Tryz.prog 106 #[.int .u32 v] w fun e w' => ∃ g, e = .returned (.slice (some ⟨g, 0, none⟩) 4 4) ∧ w'.ownsRow w.heap.size 5 1 (.slice (some ⟨g, 0, none⟩) 4 4) 4 (nums .u8 [v / 16777216, v / 65536 % 256, v / 256 % 256, v % 256]) ∧ Below w.heap.size w w' := by
 have hmk : ∀ w : World, (Instr.makeSlice 26 (.int .i64 4) (.int .i64 4)).run Tryz.prog w = .ok (.slice (some ⟨w.heap.size, 0, none⟩) 4 4) (w.alloc (.cells #[.int .u8 0, .int .u8 0, .int .u8 0, .int .u8 0] 5)) := fun _ => by kernel_rfl
 have hcp := copy_new4 w (v / 16777216) (v / 65536 % 256) (v / 256 % 256) (v % 256) 211
 go_enter Tryz.func106, Tryz.ntmps106
 go_wp2_with fail
 go_ret
 refine ⟨_, rfl, own_block (by omega) ?_ rfl rfl (by unfold maxLen; omega), ((Below.refl _ _).alloc (Nat.le_refl _) _).alloc (by simp) _⟩
 have := alloc_at (w.alloc (.cells #[.int .u8 (v / 16777216), .int .u8 (v / 65536 % 256), .int .u8 (v / 256 % 256), .int .u8 (v % 256)] 211)) (.cells #[.int .u8 (v / 16777216), .int .u8 (v / 65536 % 256), .int .u8 (v / 256 % 256), .int .u8 (v % 256)] 5)
 simpa using this
theorem get16_yes (b o n c : Nat) (x0 x1 : Int) (w : World) (hn : 2 ≤ n) (hm : n ≤ 9223372036854775807) (c0 : w.cell? ⟨b, o, none⟩ = some (.int .u8 x0)) (c1 : w.cell? ⟨b, o + 1, none⟩ = some (.int .u8 x1)) (b0 : 0 ≤ x0) (b1 : x0 ≤ 255) (b2 : 0 ≤ x1) (b3 : x1 ≤ 255) :
    Calls Tryz.prog 116 #[.slice (some ⟨b, o, none⟩) n c] w fun e w' => e = .returned (.tuple #[.int .u16 (x0 * 256 + x1), .nilIface]) ∧ Dr w w' := by
 go_enter Tryz.func116, Tryz.ntmps116
 go_wp2_with fail
 have q1 : (1 : Int) < (n : Int) := by omega
 have q0 : (0 : Int) < (n : Int) := by omega
 go_quiet (fail)
 go_wp2
 go_ret2
 exact ⟨ret_two (by rw [or16 b0 b1 b2 b3]; rfl) rfl, _, rfl⟩
theorem get32_yes (b o n c : Nat) (x0 x1 x2 x3 : Int) (w : World) (hn : 4 ≤ n) (hm : n ≤ 9223372036854775807) (c0 : w.cell? ⟨b, o, none⟩ = some (.int .u8 x0)) (c1 : w.cell? ⟨b, o + 1, none⟩ = some (.int .u8 x1))
    (c2 : w.cell? ⟨b, o + 2, none⟩ = some (.int .u8 x2)) (c3 : w.cell? ⟨b, o + 3, none⟩ = some (.int .u8 x3))
    (b0 : 0 ≤ x0) (b1 : x0 ≤ 255) (b2 : 0 ≤ x1) (b3 : x1 ≤ 255) (b4 : 0 ≤ x2) (b5 : x2 ≤ 255) (b6 : 0 ≤ x3) (b7 : x3 ≤ 255) :
    Calls Tryz.prog 117 #[.slice (some ⟨b, o, none⟩) n c] w fun e w' => e = .returned (.tuple #[.int .u32 (x0 * 16777216 + x1 * 65536 + x2 * 256 + x3), .nilIface]) ∧ Dr w w' := by
 go_enter Tryz.func117, Tryz.ntmps117
 go_wp2_with fail
 have q3 : (3 : Int) < (n : Int) := by omega
 have q2 : (2 : Int) < (n : Int) := by omega
 have q1 : (1 : Int) < (n : Int) := by omega
 have q0 : (0 : Int) < (n : Int) := by omega
 go_quiet (fail)
 go_wp2
 go_ret2
 exact ⟨ret_two (by rw [or32 b0 b1 b2 b3 b4 b5 b6 b7]; rfl) rfl, _, rfl⟩
end Go.Proofs.YtidmgckmphcegaaGreatDoor
/-
 A law's arguments, opened: a header by value.
-/
namespace Go.Proofs.YtidmgckmphcegaaGreatDoor
open Go.ChangeShapes Go.WideShapes Go.RowKit Go.Joins Go.Deep
set_option linter.unusedVariables false
section
variable {H : Type} {enc : TypeId × Value → H} {P : Program} {w : World} {base : Nat} {spare : Nat → Bool} {held : Bool}
end
structure HdrOk (ver ty fl st ln : Int) : Prop where
 ver0 : 0 ≤ ver
 ver1 : ver ≤ 255
 ty0 : 0 ≤ ty
 ty1 : ty ≤ 255
 fl0 : 0 ≤ fl
 fl1 : fl ≤ 65535
 st0 : 0 ≤ st
 st1 : st ≤ 4294967295
 ln0 : 0 ≤ ln
 ln1 : ln ≤ 4294967295
theorem bd8 {z : Int} (h : (Lit.int .u8 z).wf = true) : 0 ≤ z ∧ z ≤ 255 := bounds_u8 h
theorem bd16 {z : Int} (h : (Lit.int .u16 z).wf = true) : 0 ≤ z ∧ z ≤ 65535 := bounds_u16 h
theorem bd32 {z : Int} (h : (Lit.int .u32 z).wf = true) : 0 ≤ z ∧ z ≤ 4294967295 := bounds_u32 h
end Go.Proofs.YtidmgckmphcegaaGreatDoor
