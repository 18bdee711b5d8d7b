import Derived.Test.YtidmgckmphcegaaGreatDoorProg
import Derived.Below
import Derived.Deep.Draws
import Derived.Deep.AppendLies
import Derived.Maps.AppendAt
import Derived.OwnWalk
import Derived.Laws.BytesArg
import Derived.Laws.MakeOwn
import Derived.Laws.OwnMore
import Derived.Deep.OwnRows
import Derived.Tactics
import Derived.Lib.ConvBytes
import Derived.Laws.Slices
import Derived.WalkKit
import Derived.KernelRfl
import Derived.RowKit3
import Derived.Deep.LoopGhost
import Derived.Deep.QuietTactic
import Derived.BigQuiet
import Derived.WideLaws
import Derived.Deep.DeepCutAuto
import Derived.Deep.CutBlock
import Derived.Deep.RegionHeld3
import Derived.Laws.Rows
import Derived.Lib.AppendStr
import Derived.ArgAppend
import Derived.Laws.IdiomCopy
import Derived.OrdersHeld
import Derived.Laws.BitsLemmas
import Derived.RowKit
import Derived.Test.YtidmgckmphcegaaGreatDoorMW
import Derived.Test.YtidmgckmphcegaaGreatDoorMB
import Derived.WalkMore
import Derived.Test.YtidmgckmphcegaaGreatDoorMA
/-
 A header and a frame as kinds of elements: the text that print.sh wrote for another seat, its numbers turned by name.
-/
namespace Go.Proofs.YtidmgckmphcegaaGreatDoor.Px
open Go.RowKit Go.Proofs.YtidmgckmphcegaaGreatDoorW.PrintWords Go.Proofs.YtidmgckmphcegaaGreatDoorW.PrintLast
set_option linter.unusedVariables false
set_option linter.unusedSimpArgs false
def errW : Option Int → Value
 | none => .nilIface
 | some c => .iface 0 (.int .i64 c)
theorem errW_none : errW none = .nilIface := rfl
theorem errW_some (c : Int) : errW (some c) = .iface 0 (.int .i64 c) := rfl
-- the values' own types
/-! #### struct type 26 -/
structure S25 where
 f0 : Int
 f1 : Int
 f2 : Int
 f3 : Int
 f4 : Int
def z25 : S25 := ⟨(0 : Int), (0 : Int), (0 : Int), (0 : Int), (0 : Int)⟩
def k25 : Kd S25 := Kd.iso (Kd.pair (Kd.int .u8) (Kd.pair (Kd.int .u8) (Kd.pair (Kd.int .u16) (Kd.pair (Kd.int .u32) (Kd.int .u32))))) (fun x : S25 => (x.f0, x.f1, x.f2, x.f3, x.f4))
theorem k25_open {w : World} {x : S25} {cs : List Value} (h : k25.K w x cs) : cs = [.int .u8 x.f0, .int .u8 x.f1, .int .u16 x.f2, .int .u32 x.f3, .int .u32 x.f4] := by
 obtain ⟨_, _, rfl, rfl, ⟨_, _, rfl, rfl, ⟨_, _, rfl, rfl, ⟨_, _, rfl, rfl, rfl⟩⟩⟩⟩ := h
 exact rfl
theorem k25_mk (w : World) (x : S25)  : k25.K w x [.int .u8 x.f0, .int .u8 x.f1, .int .u16 x.f2, .int .u32 x.f3, .int .u32 x.f4] := ⟨[.int .u8 x.f0], [.int .u8 x.f1, .int .u16 x.f2, .int .u32 x.f3, .int .u32 x.f4], rfl, rfl, ⟨[.int .u8 x.f1], [.int .u16 x.f2, .int .u32 x.f3, .int .u32 x.f4], rfl, rfl, ⟨[.int .u16 x.f2], [.int .u32 x.f3, .int .u32 x.f4], rfl, rfl, ⟨[.int .u32 x.f3], [.int .u32 x.f4], rfl, rfl, rfl⟩⟩⟩⟩
/-! #### struct type 45 -/
structure S28 where
 f0 : S25
 f1 : (List Int)
def z28 : S28 := ⟨z25, ([] : List Int)⟩
def k28 : Kd S28 := Kd.iso (Kd.pair k25 (Kd.slice 5 (Kd.int .u8))) (fun x : S28 => (x.f0, x.f1))
theorem k28_open {w : World} {x : S28} {cs : List Value} (h : k28.K w x cs) : ∃ A5 c5, cs = [.int .u8 x.f0.f0, .int .u8 x.f0.f1, .int .u16 x.f0.f2, .int .u32 x.f0.f3, .int .u32 x.f0.f4, .slice A5 x.f1.length c5] ∧ x.f1.length ≤ c5 ∧ (Kd.int .u8).C w A5 x.f1.length x.f1 := by
 obtain ⟨_, _, rfl, s0, ⟨A5, c5, rfl, l5, g5⟩⟩ := h
 obtain rfl := k25_open s0
 exact ⟨A5, c5, rfl, l5, g5⟩
theorem k28_mk (w : World) (x : S28) {A5 : Option Addr} {c5 : Nat} (l5 : x.f1.length ≤ c5) (g5 : (Kd.int .u8).C w A5 x.f1.length x.f1) : k28.K w x [.int .u8 x.f0.f0, .int .u8 x.f0.f1, .int .u16 x.f0.f2, .int .u32 x.f0.f3, .int .u32 x.f0.f4, .slice A5 x.f1.length c5] := ⟨[.int .u8 x.f0.f0, .int .u8 x.f0.f1, .int .u16 x.f0.f2, .int .u32 x.f0.f3, .int .u32 x.f0.f4], [.slice A5 x.f1.length c5], rfl, (k25_mk w x.f0 ), ⟨A5, c5, rfl, l5, g5⟩⟩
def rd_T28 (xs : List S28) (i : Int) : S28 := xs.getD i.toNat z28
end Go.Proofs.YtidmgckmphcegaaGreatDoor.Px
/-
 Plain: what a decoder makes of bytes.
-/
namespace Go.Proofs.YtidmgckmphcegaaGreatDoor
open Go.Proofs.YtidmgckmphcegaaGreatDoor.Px
set_option linter.unusedVariables false
set_option linter.unusedSimpArgs false
abbrev Fr := S28
def hdOf (xs : List Int) : S25 := ⟨D0 xs, D1 xs, D2 xs, D3 xs, D4 xs⟩
def szX (xs : List Int) : Nat := (szF (D1 xs) (D4 xs)).toNat
def chkX (most : Int) (xs : List Int) : Nat := chk (D0 xs) (D1 xs) (D2 xs) (D3 xs) (D4 xs) most
def cut (most : Int) (xs : List Int) : List Fr × List Int × Nat × Int :=
 if h : xs.length < 12 then ([], xs, 0, 0) else
 if chkX most xs ≠ 0 then ([], [], chkX most xs, D3 xs) else
 if xs.length - 12 < szX xs then ([], xs, 0, 0) else
 let r := cut most (xs.drop (12 + szX xs))
 (⟨hdOf xs, (xs.drop 12).take (szX xs)⟩ :: r.1, r.2)
termination_by xs.length
decreasing_by simp; omega
theorem cut_short {most : Int} {xs : List Int} (h : xs.length < 12) : cut most xs = ([], xs, 0, 0) := by rw [cut, dif_pos h]
theorem cut_bad {most : Int} {xs : List Int} (h : ¬ xs.length < 12) (hc : chkX most xs ≠ 0) : cut most xs = ([], [], chkX most xs, D3 xs) := by rw [cut, dif_neg h, if_pos hc]
theorem cut_part {most : Int} {xs : List Int} (h : ¬ xs.length < 12) (hc : chkX most xs = 0) (hp : xs.length - 12 < szX xs) : cut most xs = ([], xs, 0, 0) := by rw [cut, dif_neg h, if_neg (by simp [hc]), if_pos hp]
theorem cut_go {most : Int} {xs : List Int} (h : ¬ xs.length < 12) (hc : chkX most xs = 0) (hp : ¬ xs.length - 12 < szX xs) :
    cut most xs = (⟨hdOf xs, (xs.drop 12).take (szX xs)⟩ :: (cut most (xs.drop (12 + szX xs))).1, (cut most (xs.drop (12 + szX xs))).2) := by rw [cut, dif_neg h, if_neg (by simp [hc]), if_neg hp]
theorem D_app {xs ys : List Int} (h : ¬ xs.length < 12) : D0 (xs ++ ys) = D0 xs ∧ D1 (xs ++ ys) = D1 xs ∧ D2 (xs ++ ys) = D2 xs ∧ D3 (xs ++ ys) = D3 xs ∧ D4 (xs ++ ys) = D4 xs := by
 have h' : ¬ (xs ++ ys).length < 12 := by simp; omega
 have hg : ∀ j, j < 12 → gd (xs ++ ys) j = gd xs j := fun j hj => by
  unfold gd
  rw [List.getD_eq_getElem?_getD, List.getD_eq_getElem?_getD, List.getElem?_append_left (by omega)]
 simp only [D0, D1, D2, D3, D4, dFl, dSt, dLn, if_neg h, if_neg h']
 simp only [hg 0 (by omega), hg 1 (by omega), hg 2 (by omega), hg 3 (by omega), hg 4 (by omega), hg 5 (by omega), hg 6 (by omega), hg 7 (by omega), hg 8 (by omega), hg 9 (by omega), hg 10 (by omega), hg 11 (by omega)]
 simp
theorem szX_app {xs ys : List Int} (h : ¬ xs.length < 12) : szX (xs ++ ys) = szX xs := by
 obtain ⟨_, e1, _, _, e4⟩ := D_app (ys := ys) h
 unfold szX; rw [e1, e4]
theorem chkX_app {most : Int} {xs ys : List Int} (h : ¬ xs.length < 12) : chkX most (xs ++ ys) = chkX most xs := by
 obtain ⟨e0, e1, e2, e3, e4⟩ := D_app (ys := ys) h
 unfold chkX; rw [e0, e1, e2, e3, e4]
theorem hdOf_app {xs ys : List Int} (h : ¬ xs.length < 12) : hdOf (xs ++ ys) = hdOf xs := by
 obtain ⟨e0, e1, e2, e3, e4⟩ := D_app (ys := ys) h
 unfold hdOf; rw [e0, e1, e2, e3, e4]
theorem cut_app (most : Int) (xs ys : List Int) : cut most (xs ++ ys) = if (cut most xs).2.2.1 = 0 then ((cut most xs).1 ++ (cut most ((cut most xs).2.1 ++ ys)).1, (cut most ((cut most xs).2.1 ++ ys)).2) else cut most xs := by
 induction hn : xs.length using Nat.strongRecOn generalizing xs with
 | _ n ih =>
   subst hn
   by_cases h12 : xs.length < 12
   · rw [cut_short h12]; simp
   · by_cases hc : chkX most xs = 0
     · by_cases hp : xs.length - 12 < szX xs
       · rw [cut_part h12 hc hp]; simp
       · have h12' : ¬ (xs ++ ys).length < 12 := by simp; omega
         have hp' : ¬ (xs ++ ys).length - 12 < szX (xs ++ ys) := by rw [szX_app h12]; simp; omega
         rw [cut_go h12' (by rw [chkX_app h12, hc]) hp', cut_go h12 hc hp, szX_app h12, hdOf_app h12]
         have e1 : (xs ++ ys).drop (12 + szX xs) = xs.drop (12 + szX xs) ++ ys := by rw [List.drop_append_of_le_length (by omega)]
         have e2 : ((xs ++ ys).drop 12).take (szX xs) = (xs.drop 12).take (szX xs) := by
          rw [List.drop_append_of_le_length (by omega), List.take_append_of_le_length (by simp; omega)]
         rw [e1, e2, ih (xs.drop (12 + szX xs)).length (by simp; omega) (xs.drop (12 + szX xs)) rfl]
         split <;> simp
     · have h12' : ¬ (xs ++ ys).length < 12 := by simp; omega
       rw [cut_bad h12' (by rw [chkX_app h12]; exact hc), cut_bad h12 hc, chkX_app h12]
       obtain ⟨_, _, _, e3, _⟩ := D_app (ys := ys) h12
       rw [e3]
       simp [hc]
theorem cut_len (most : Int) (xs : List Int) : 12 * (cut most xs).1.length + (cut most xs).2.1.length ≤ xs.length := by
 induction hn : xs.length using Nat.strongRecOn generalizing xs with
 | _ n ih =>
   subst hn
   by_cases h12 : xs.length < 12
   · rw [cut_short h12]; simp
   · by_cases hc : chkX most xs = 0
     · by_cases hp : xs.length - 12 < szX xs
       · rw [cut_part h12 hc hp]; simp
       · rw [cut_go h12 hc hp]
         have := ih (xs.drop (12 + szX xs)).length (by simp; omega) _ rfl
         simp at this ⊢
         omega
     · rw [cut_bad h12 hc]; simp
theorem cut_code (most : Int) (xs : List Int) : (cut most xs).2.2.1 = 0 ∨ (11 ≤ (cut most xs).2.2.1 ∧ (cut most xs).2.2.1 ≤ 15) := by
 induction hn : xs.length using Nat.strongRecOn generalizing xs with
 | _ n ih =>
   subst hn
   by_cases h12 : xs.length < 12
   · rw [cut_short h12]; simp
   · by_cases hc : chkX most xs = 0
     · by_cases hp : xs.length - 12 < szX xs
       · rw [cut_part h12 hc hp]; simp
       · rw [cut_go h12 hc hp]
         exact ih (xs.drop (12 + szX xs)).length (by simp; omega) _ rfl
     · rw [cut_bad h12 hc]
       right
       revert hc
       simp only [chkX]
       unfold chk
       (repeat' split) <;> omega
end Go.Proofs.YtidmgckmphcegaaGreatDoor
/-
 Lists of frames that lie in memory; an append that tells where its row lies.
-/
namespace Go.Proofs.YtidmgckmphcegaaGreatDoor
open Go.RowKit Go.Proofs.YtidmgckmphcegaaGreatDoorW.PrintWords Go.Proofs.YtidmgckmphcegaaGreatDoor.Px
set_option linter.unusedVariables false
set_option linter.unusedSimpArgs false
abbrev kFr := k28
theorem Bs.reads {w : World} {A : Option Addr} {n c : Nat} {xs : List Int} (h : Bs w A n c xs) : ReadsInt w .u8 A n xs :=
 ⟨h.len, Nat.le_trans h.cap h.max, fun hn => by
  obtain ⟨b, o, rfl, hr⟩ := h.rd hn
  refine ⟨_, rfl, fun j hj => ?_⟩
  rw [Addr.add_lit]; exact hr j hj⟩
theorem Bs.C {w : World} {A : Option Addr} {n c : Nat} {xs : List Int} (h : Bs w A n c xs) : (Kd.int .u8).C w A n xs :=
 ⟨h.len, Nat.le_trans h.cap h.max, fun hn => by
  obtain ⟨b, o, rfl, hr⟩ := h.rd hn
  refine ⟨_, rfl, fun j p hj => ⟨[.int .u8 p], rfl, rfl, fun i u hu => ?_⟩⟩
  have hjl : j < n := by rw [← h.len]; exact (List.getElem?_eq_some_iff.1 hj).1
  rcases i with _ | i
  · simp only [List.getElem?_cons_zero, Option.some.injEq] at hu
    subst hu
    have e : (Kd.int .u8).sz = 1 := rfl
    rw [e, Nat.mul_one, Nat.add_zero, Addr.add_lit, hr j hjl]
    simp [List.getD_eq_getElem?_getD, hj]
  · simp at hu⟩
theorem FBs.F {w : World} {ok : Nat → Prop} {A : Option Addr} {n c : Nat} {xs : List Int} (h : FBs w ok A n c xs) : Kd.F (Kd.int .u8) w ok A n xs := Foot.imp h fun _ hb => hb.C
theorem append_at {w0 w : World} {ops : Array Oper} {rest : List Oper} {o : Oper} {a : Act} {Q : Exit → Act → World → Prop} (hgd : o.guard = none) (s x : Operand)
    (ho : o.op = .call { callee := .builtin .append, args := #[s, x], argTypes := #[26, 26] })
    (v : Value) (ys : List Int) (hs : a.eval s = v) (hown : Own w w0.heap.size v ys) (A : Option Addr) (n c : Nat) (xs : List Int) (hx : a.eval x = .slice A n c) (hB : Bs w A n c xs)
    (h63 : ys.length + n ≤ 140737488355328) (hb0 : Below w0.heap.size w0 w)
    (h : ∀ v' w', Own w' w0.heap.size v' (ys ++ xs) → Below w0.heap.size w0 w' → w.grownBy w' v.ownBlock → (v'.ownBlock = v.ownBlock ∨ ∃ b, v'.ownBlock = some b ∧ w.heap.size ≤ b) → wpList Tryz.prog ops Q rest (a.put o.dst v') w') : wpList Tryz.prog ops Q (o :: rest) a w :=
 print_append_row (P := Tryz.prog) (w0 := w0) (W := w) w0.heap.size hgd s x 26 5 .u8 1 ho Tryz.underlying26 u8_info (by decide) v ys xs A n c hs hx hown hB.reads hb0 hb0.size (by omega)
  (fun v1 w1 h1 h2 h3 h4 => h v1 w1 h1 h2 h3 h4)
theorem fr_info : (Tryz.prog.info? 28).map (fun i => (i.zero, i.size, i.bytes)) = some (some (.agg #[(.int .u8 0), (.int .u8 0), (.int .u16 0), (.int .u32 0), (.int .u32 0), (.slice none 0 0)]), 6, 40) := by kernel_rfl
theorem fr_mkF {W : World} {ok : Nat → Prop} (x : Fr) {A : Option Addr} {c : Nat} (l : x.f1.length ≤ c) (h : Kd.F (Kd.int .u8) W ok A x.f1.length x.f1) : Kd.FK kFr W ok x [.int .u8 x.f0.f0, .int .u8 x.f0.f1, .int .u16 x.f0.f2, .int .u32 x.f0.f3, .int .u32 x.f0.f4, .slice A x.f1.length c] := fun W' hW => k28_mk W' x l (h W' hW)
abbrev frc (x : Fr) (A : Option Addr) (c : Nat) : Array Value := #[.int .u8 x.f0.f0, .int .u8 x.f0.f1, .int .u16 x.f0.f2, .int .u32 x.f0.f3, .int .u32 x.f0.f4, .slice A x.f1.length c]
theorem fr_append {w0 W : World} {ops : Array Oper} {rest : List Oper} {o : Oper} {a : Act} {Q : Exit → Act → World → Prop} (hgd : o.guard = none) (s x : Operand)
    (ho : o.op = .call { callee := .builtin .append, args := #[s, x], argTypes := #[51, 51] })
    (u : Value) (fs : List Fr) (p : Fr) (A : Option Addr) (c : Nat) (ok okp : Nat → Prop) (l : p.f1.length ≤ c) (hp : Kd.F (Kd.int .u8) W okp A p.f1.length p.f1) (hokp : ∀ k, okp k → ok k ∧ some k ≠ u.ownBlock) (hok : ∀ k, W.heap.size ≤ k → ok k)
    (hs : a.eval s = u) (hx : a.eval x = .slice (some ⟨W.heap.size, 0, none⟩) 1 1) (HO : Kd.N kFr 28 W w0.heap.size ok u fs) (HB : Below w0.heap.size w0 W) (hl : fs.length ≤ 1099511627776)
    (h : ∀ v1 w1, Kd.N kFr 28 w1 w0.heap.size ok v1 (fs ++ [p]) → Below w0.heap.size w0 w1 → W.grownBy w1 u.ownBlock → wpList Tryz.prog ops Q rest (a.put o.dst v1) w1) :
    wpList Tryz.prog ops Q (o :: rest) a (W.alloc (.cells (frc p A c) 28)) :=
 Kd.N_append (P := Tryz.prog) kFr (w0 := w0) (W := W) w0.heap.size hgd s x 51 28 (.agg #[(.int .u8 0), (.int .u8 0), (.int .u16 0), (.int .u32 0), (.int .u32 0), (.slice none 0 0)]) 40 ho Tryz.underlying51 fr_info rfl (by decide) (by omega) u fs p _ ok okp hs hx (fr_mkF p l hp) hokp hok HO HB HB.size (by omega)
  (fun v1 w1 h1 h2 h3 _ => h v1 w1 h1 h2 h3)
theorem fr_append_step {w0 W : World} {ops : Array Oper} {o : Oper} {a : Act} {Q : Exit → Act → World → Prop} {Kc : Act → World → Prop} (hw : Region.wanted o (yielded ops a.tmps) = true) (s x : Operand)
    (ho : o.op = .call { callee := .builtin .append, args := #[s, x], argTypes := #[51, 51] })
    (u : Value) (fs : List Fr) (p : Fr) (A : Option Addr) (c : Nat) (ok okp : Nat → Prop) (l : p.f1.length ≤ c) (hp : Kd.F (Kd.int .u8) W okp A p.f1.length p.f1) (hokp : ∀ k, okp k → ok k ∧ some k ≠ u.ownBlock) (hok : ∀ k, W.heap.size ≤ k → ok k)
    (hs : a.eval s = u) (hx : a.eval x = .slice (some ⟨W.heap.size, 0, none⟩) 1 1) (HO : Kd.N kFr 28 W w0.heap.size ok u fs) (HB : Below w0.heap.size w0 W) (hl : fs.length ≤ 1099511627776)
    (h : ∀ v1 w1, Kd.N kFr 28 w1 w0.heap.size ok v1 (fs ++ [p]) → Below w0.heap.size w0 w1 → W.grownBy w1 u.ownBlock → Kc (a.put o.dst v1) w1) :
    if Region.wanted o (yielded ops a.tmps) = true then Oper.wp Tryz.prog o a (W.alloc (.cells (frc p A c) 28)) Kc Q else Kc (a.put o.dst undef) (W.alloc (.cells (frc p A c) 28)) :=
 Kd.N_append_step (P := Tryz.prog) kFr (w0 := w0) (W := W) w0.heap.size hw s x 51 28 (.agg #[(.int .u8 0), (.int .u8 0), (.int .u16 0), (.int .u32 0), (.int .u32 0), (.slice none 0 0)]) 40 ho Tryz.underlying51 fr_info rfl (by decide) (by omega) u fs p _ ok okp hs hx (fr_mkF p l hp) hokp hok HO HB HB.size (by omega)
  (fun v1 w1 h1 h2 h3 _ => h v1 w1 h1 h2 h3)
end Go.Proofs.YtidmgckmphcegaaGreatDoor
/-
 (*Decoder).Feed of a decoder that lives.
-/
namespace Go.Proofs.YtidmgckmphcegaaGreatDoor
open Go.RowKit Go.Proofs.YtidmgckmphcegaaGreatDoorW.PrintWords Go.Proofs.YtidmgckmphcegaaGreatDoorW.PrintLast Go.Proofs.YtidmgckmphcegaaGreatDoor.Px
set_option linter.unusedVariables false
set_option linter.unusedSimpArgs false
abbrev dbox (most : Int) (v : Value) (d : Option Addr) : Obj := .cells #[.int .i64 most, v, .pointer d] 141 (0, 0)
abbrev vbox (st : Int) (sa : Nat → Addr) (e : Nat) : Obj := .cells #[.int .u32 st, sv (sa e)] 136 (0, 0)
structure FedTo (sa : Nat → Addr) (w0 w w' : World) (g : Nat) (most : Int) (v : Value) (r : List Fr × List Int × Nat × Int) (fv ev v' : Value) : Prop where
 below : Below w0.heap.size w0 w'
 kept : Kept w w' (fun k => k = g ∨ some k = v.ownBlock)
 frames : Kd.N kFr 28 w' w.heap.size (fun k => w.heap.size ≤ k ∧ some k ≠ v'.ownBlock) fv r.1
 row : v'.ownBlock = v.ownBlock ∨ v'.ownBlock = none ∨ ∃ k, v'.ownBlock = some k ∧ w.heap.size ≤ k
 live : r.2.2.1 = 0 → ev = .nilIface ∧ w'.heap[g]? = some (dbox most v' none) ∧ Own w' w0.heap.size v' r.2.1
 dead : r.2.2.1 ≠ 0 → ∃ b, ev = vv b 0 ∧ w'.heap[g]? = some (dbox most (.slice none 0 0) (some ⟨b, 0, none⟩)) ∧ w'.heap[b]? = some (vbox r.2.2.2 sa r.2.2.1) ∧ w.heap.size ≤ b ∧ v' = .slice none 0 0
structure FLoop (w wr : World) (most : Int) (v : Value) (hs rest : List Int) (fs : List Fr) (A : Option Addr) (n c : Nat) (u : Value) : Prop where
 below : Below w.heap.size w wr
 rd : FBs wr (fun k => some k = v.ownBlock) A n c rest
 out : Kd.N kFr 28 wr w.heap.size (fun k => w.heap.size ≤ k) u fs
 cut : cut most hs = (fs ++ (cut most rest).1, (cut most rest).2)
 suf : ∃ k, rest = hs.drop k
theorem FLoop.next {w wr w1 : World} {most : Int} {v u v1 : Value} {hs rest : List Int} {fs : List Fr} {A : Option Addr} {n c m : Nat} {p : Fr} (h : FLoop w wr most v hs rest fs A n c u) (hbz : ∀ k, v.ownBlock = some k → k < w.heap.size) (h12 : ¬ rest.length < 12) (hz : chkX most rest = 0) (hp : ¬ rest.length - 12 < szX rest) (hm : m = 12 + szX rest) (hmn : m ≤ n)
    (hx : p = ⟨hdOf rest, (rest.drop 12).take (szX rest)⟩) (hb : Below w.heap.size w w1) (hN : Kd.N kFr 28 w1 w.heap.size (fun k => w.heap.size ≤ k) v1 (fs ++ [p])) : FLoop w w1 most v hs (rest.drop m) (fs ++ [p]) (if c = m then A else A.map (·.add m)) (n - m) (c - m) v1 := by
 refine ⟨hb, (h.rd.step fun k hk _ => (hb.block k (hbz k hk.symm)).trans (h.below.block k (hbz k hk.symm)).symm).drop m hmn, hN, ?_, ?_⟩
 · rw [h.cut, cut_go h12 hz hp, ← hm, ← hx]; simp
 · obtain ⟨k, hk⟩ := h.suf
   exact ⟨k + m, by rw [hk, List.drop_drop]⟩
def lenOf : Value → Nat
 | .slice _ n _ => n
 | _ => 0
theorem D_take {xs : List Int} (h : ¬ xs.length < 12) : D0 (xs.take 12) = D0 xs ∧ D1 (xs.take 12) = D1 xs ∧ D2 (xs.take 12) = D2 xs ∧ D3 (xs.take 12) = D3 xs ∧ D4 (xs.take 12) = D4 xs ∧ DE (xs.take 12) = 0 := by
 have h' : ¬ (xs.take 12).length < 12 := by simp; omega
 obtain ⟨e0, e1, e2, e3, e4⟩ := D_app (ys := xs.drop 12) h'
 rw [List.take_append_drop] at e0 e1 e2 e3 e4
 exact ⟨e0.symm, e1.symm, e2.symm, e3.symm, e4.symm, by unfold DE; rw [if_neg h']⟩
theorem szF_nonneg (ty : Int) {ln : Int} (h : 0 ≤ ln) : 0 ≤ szF ty ln := by unfold szF; split <;> omega
theorem szF_le (ty : Int) {ln : Int} (h : 0 ≤ ln) (h1 : ln ≤ 4294967295) : szF ty ln ≤ 4294967295 := by unfold szF; split <;> omega
theorem fed_same {sa : Nat → Addr} {w0 w w2 X : World} {g : Nat} {most : Int} {v v1 u : Value} {zs rest : List Int} {fs : List Fr} (HB2 : Below w0.heap.size w0 w2) (HK2 : Kept w w2 (fun k => k = g ∨ some k = v.ownBlock)) (hB : Below w2.heap.size w2 X) (hg : X.heap[g]? = some (dbox most v1 none)) (hO : Own w2 w0.heap.size v1 zs)
    (hN : Kd.N kFr 28 X w2.heap.size (fun k => w2.heap.size ≤ k) u fs) (hcut : cut most zs = (fs, rest, 0, 0)) (hrest : rest = zs) (hat : v1.ownBlock = v.ownBlock ∨ ∃ b, v1.ownBlock = some b ∧ w.heap.size ≤ b) : FedTo sa w0 w X g most v (cut most zs) u .nilIface v1 := by
 have hwz : w.heap.size ≤ w2.heap.size := HK2.1
 rw [hcut]
 refine ⟨belowT HB2 (hB.mono (Nat.le_refl _)), HK2.below hB, ?_, ?_, fun _ => ⟨rfl, hg, ?_⟩, fun h => absurd rfl h⟩
 · exact Kd.N_mono (Kd.N_lower hN hwz) fun k hk => ⟨by omega, fun e => by have := (hO.blk k e.symm).2; omega⟩
 · rcases hat with h | h
   · exact .inl h
   · exact .inr (.inr h)
 · rw [hrest]; exact hO.keep fun k hk => hB.block k (hO.blk k hk).2
theorem fed_clone {sa : Nat → Addr} {w0 w w2 X w3 : World} {g : Nat} {most : Int} {v v1 v3 u : Value} {zs rest : List Int} {fs : List Fr} (HB2 : Below w0.heap.size w0 w2) (HK2 : Kept w w2 (fun k => k = g ∨ some k = v.ownBlock)) (hB : Below w2.heap.size w2 X) (hgz : g < w2.heap.size) (hg0 : w0.heap.size ≤ g)
    (hN : Kd.N kFr 28 X w2.heap.size (fun k => w2.heap.size ≤ k) u fs) (hcut : cut most zs = (fs, rest, 0, 0)) (hO3 : Own w3 X.heap.size v3 rest) (hb3 : Below X.heap.size X w3) (hg3 : w3.heap[g]? = some (dbox most v1 none)) :
    FedTo sa w0 w (w3.setCell ⟨g, 1, none⟩ v3) g most v (cut most zs) u .nilIface v3 := by
 have hwz : w.heap.size ≤ w2.heap.size := HK2.1
 have hzX := hB.size
 have h03 := HB2.size
 have hst : ∀ k, k ≠ g → (w3.setCell ⟨g, 1, none⟩ v3).heap[k]? = w3.heap[k]? := fun k hk => set_other _ hk
 rw [hcut]
 refine ⟨(belowT (belowT HB2 hB) hb3).setCell hg0 _, ((HK2.below hB).below hb3).setCell (.inl (.inl rfl)) _, ?_, ?_, fun _ => ⟨rfl, set_blk _ hg3, ?_⟩, fun h => absurd rfl h⟩
 · have h1 := Kd.N_bound (Kd.N_lower hN hwz)
   have h2 := Kd.N_below h1 hb3
   refine Kd.N_mono (Kd.N_step h2 fun k hk _ => hst k (by omega)) fun k hk => ⟨by omega, fun e => by have := (hO3.blk k e.symm).1; omega⟩
 · cases h : v3.ownBlock with
   | none => exact .inr (.inl rfl)
   | some k => exact .inr (.inr ⟨k, rfl, by have := (hO3.blk k h).1; omega⟩)
 · exact (hO3.lower (by omega)).keep fun k hk => hst k (by have := (hO3.blk k hk).1; omega)
theorem fed_dead {sa : Nat → Addr} {w0 w w2 X w3 : World} {g b e : Nat} {st : Int} {most : Int} {v v1 u : Value} {zs : List Int} {fs : List Fr} (HB2 : Below w0.heap.size w0 w2) (HK2 : Kept w w2 (fun k => k = g ∨ some k = v.ownBlock)) (hB : Below w2.heap.size w2 X) (hgz : g < w2.heap.size) (hg0 : w0.heap.size ≤ g)
    (hN : Kd.N kFr 28 X w2.heap.size (fun k => w2.heap.size ≤ k) u fs) (hcut : cut most zs = (fs, [], e, st)) (he : e ≠ 0) (hb3 : Below X.heap.size X w3) (hg3 : w3.heap[g]? = some (dbox most v1 none)) (hb : w3.heap[b]? = some (vbox st sa e)) (hbX : X.heap.size ≤ b) :
    FedTo sa w0 w ((w3.setCell ⟨g, 2, none⟩ (.pointer (some ⟨b, 0, none⟩))).setCell ⟨g, 1, none⟩ (.slice none 0 0)) g most v (cut most zs) u (vv b 0) (.slice none 0 0) := by
 have hwz : w.heap.size ≤ w2.heap.size := HK2.1
 have hzX := hB.size
 have hst : ∀ k, k ≠ g → ((w3.setCell ⟨g, 2, none⟩ (.pointer (some ⟨b, 0, none⟩))).setCell ⟨g, 1, none⟩ (.slice none 0 0)).heap[k]? = w3.heap[k]? := fun k hk => by rw [set_other _ hk, set_other _ hk]
 rw [hcut]
 refine ⟨((belowT (belowT HB2 hB) hb3).setCell hg0 _).setCell hg0 _, (((HK2.below hB).below hb3).setCell (.inl (.inl rfl)) _).setCell (.inl (.inl rfl)) _, ?_, .inr (.inl (by simp [Value.ownBlock])), fun h => absurd h he, fun _ => ⟨b, rfl, set_blk _ (set_blk _ hg3), ?_, by omega, rfl⟩⟩
 · have h1 := Kd.N_below (Kd.N_lower hN hwz) hb3
   refine Kd.N_mono (Kd.N_step h1 fun k hk _ => hst k (by omega)) fun k hk => ⟨by omega, by simp [Value.ownBlock]⟩
 · rw [hst b (by omega)]; exact hb
theorem FedTo.drew {sa : Nat → Addr} {w0 w w' : World} {g : Nat} {most : Int} {v : Value} {r : List Fr × List Int × Nat × Int} {fv ev v' : Value} (h : FedTo sa w0 w w' g most v r fv ev v') : FedTo sa w0 w w'.drew g most v r fv ev v' :=
 ⟨h.below.drew, h.kept.below (Below.refl _ _).drew, Kd.N_step h.frames fun _ _ _ => rfl, h.row, fun e => ⟨(h.live e).1, (h.live e).2.1, (h.live e).2.2.keep fun _ _ => rfl⟩, h.dead⟩
set_option maxRecDepth 100000 in
set_option maxHeartbeats 4000000 in
theorem feed_any {sa : Nat → Addr} {w0 w : World} (hG : Good w0 sa) (hL : Lawful w0) (g : Nat) (most : Int) (v : Value) (hs ys : List Int) (hb0 : Below w0.heap.size w0 w) (hg : w.heap[g]? = some (dbox most v none)) (hg0 : w0.heap.size ≤ g) (hO : Own w w0.heap.size v hs) (hx : ∀ x ∈ hs, 0 ≤ x ∧ x ≤ 255) (A : Option Addr) (n c : Nat) (hB : Bs w A n c ys) (m1 : 1 ≤ most) (m2 : most ≤ 65536) (hsz : hs.length + n ≤ 1099511627776) :
    Calls Tryz.prog 42 #[.pointer (some ⟨g, 0, none⟩), .slice A n c] w fun e w' => ∃ fv ev v', e = .returned (.tuple #[fv, ev]) ∧ FedTo sa w0 w w' g most v (cut most (hs ++ ys)) fv ev v' := by
 have hyb := hB.byt
 obtain rfl := hB.len
 obtain ⟨A0, c0, rfl, hq0⟩ := Own.bs hO hx
 have hne : (Value.slice A0 hs.length c0).ownBlock ≠ some g := fun e => by
  obtain ⟨cs, h1⟩ := own_typed hO g e
  rw [hg] at h1
  simp at h1
 have p0 : w.cell? ⟨g, 0, none⟩ = some (.int .i64 most) := cell_blk hg rfl
 have p1 : w.cell? ⟨g, 1, none⟩ = some (.slice A0 hs.length c0) := cell_blk hg rfl
 have p2 : w.cell? ⟨g, 2, none⟩ = some (.pointer none) := cell_blk hg rfl
 have HG := Lib.hid hG
 have HL := Lib.hid hL
 have HB0 := Lib.hid hb0
 have Hg := Lib.hid hg
 have HO := Lib.hid hO
 obtain ⟨zs, hzs⟩ : ∃ zs, zs = hs ++ ys := ⟨_, rfl⟩
 rw [← hzs]
 have HX := Lib.hid (show ∀ x ∈ zs, 0 ≤ x ∧ x ≤ 255 by rw [hzs]; exact fun x h => (List.mem_append.1 h).elim (hx x) (hyb x))
 have hzl : zs.length ≤ 1099511627776 := by rw [hzs, List.length_append]; exact hsz
 have HZ := Lib.hid hzs
 clear hzs
 have HBy := Lib.hid hB
 have HNE := Lib.hid hne
 clear hG hL hb0 hg hO hx hB hyb hq0 hne
 go_enter Tryz.func42, Tryz.ntmps42
 go_wp2_with fail
 go_step3
 go_wp2_with (at_builtin; refine append_at (w0 := w0) rfl _ _ rfl (.slice A0 hs.length c0) hs rfl HO.out A ys.length c ys rfl HBy.out (by omega) HB0.out ?_; intro v1 w1 ho1 hb1 hg1 hat1; rw [← HZ.out] at ho1; obtain ⟨A1, c1, rfl, hf1⟩ := Own.fbs ho1 HX.out; have HO1 := Lib.hid ho1; have HF1 := Lib.hid hf1; have HB1 := Lib.hid hb1; have HG1 := Lib.hid hg1; have HA1 := Lib.hid hat1; have Hg1 := Lib.hid (grown_blk hg1 HNE.out Hg.out); clear ho1 hb1 hg1 hat1 hf1; have q1 : w1.cell? ⟨g, 1, none⟩ = some (.slice A0 hs.length c0) := cell_blk Hg1.out rfl; have r1 : w1.frozen? ⟨g, 1, none⟩ = false := free_blk Hg1.out)
 go_step3
 go_wp2_with fail
 obtain ⟨w2, hw2⟩ : ∃ w2, w2 = w1.setCell ⟨g, 1, none⟩ (.slice A1 zs.length c1) := ⟨_, rfl⟩
 have hv1 : (Value.slice A1 zs.length c1).ownBlock ≠ some g := fun e => by
  obtain ⟨cs, h1⟩ := own_typed HO1.out g e
  rw [Hg1.out] at h1
  simp at h1
 have Hg2 := Lib.hid (show w2.heap[g]? = some (dbox most (.slice A1 zs.length c1) none) by rw [hw2]; exact set_blk _ Hg1.out)
 have hst : ∀ k, k ≠ g → w2.heap[k]? = w1.heap[k]? := fun k hk => by rw [hw2]; exact set_other _ hk
 have HF2 := Lib.hid (HF1.out.step (w1 := w2) fun k hk _ => hst k (fun e => hv1 (by rw [← hk, e])))
 have HO2 := Lib.hid (HO1.out.keep (w1 := w2) fun k hk => hst k (fun e => hv1 (by rw [hk, e])))
 have HB2 := Lib.hid (show Below w0.heap.size w0 w2 by rw [hw2]; exact HB1.out.setCell hg0 _)
 have HK2 := Lib.hid (show Kept w w2 (fun k => k = g ∨ some k = (Value.slice A0 hs.length c0).ownBlock) by
  rw [hw2]
  exact (Kept.of_grown HG1.out (Kept.refl w _) (fun k hk => .inl (.inr hk.symm))).setCell (.inl (.inl rfl)) _)
 have hgz : g < w2.heap.size := (Array.getElem?_eq_some_iff.1 Hg2.out).1
 have HGd := Lib.hid (HG.out.below HB2.out)
 have HLd := Lib.hid (HL.out.below HB2.out)
 have hbz : ∀ k, (Value.slice A1 zs.length c1).ownBlock = some k → k < w2.heap.size := fun k hk => (HO2.out.blk k hk).2
 have HBZ := Lib.hid hbz
 have hwz : w.heap.size ≤ w2.heap.size := HK2.out.1
 rw [← hw2]
 clear hw2 hv1 hst hbz p0 p1 p2 q1 r1 HF1 HO1 Hg1 HB1 HG1 HO Hg HBy HB0 HNE
 go_loopw [6, 7] (fun all out wr => ∃ (rest : List Int) (fs : List Fr) (A : Option Addr) (n c : Nat), all = .slice A n c ∧ Hid (FLoop w2 wr most (.slice A1 zs.length c1) zs rest fs A n c out)) (fun all _ _ => lenOf all)
 case atStart => exact ⟨zs, [], A1, zs.length, c1, rfl, Lib.hid ⟨Below.refl _ _, HF2.out, Kd.N_nil _ _ _ _ _, by simp, 0, rfl⟩⟩
 case round =>
  obtain ⟨rest, fs, A2, n2, c2, rfl, HR⟩ := hrel
  obtain rfl := HR.out.rd.now.len
  have hrc : rest.length ≤ c2 := HR.out.rd.now.cap
  have hcm : c2 ≤ 9223372036854775807 := HR.out.rd.now.max
  have hrz : rest.length ≤ zs.length := by have := cut_len most zs; obtain ⟨k, hk⟩ := HR.out.suf; rw [hk]; simp
  have HGr := Lib.hid (HGd.out.below HR.out.below)
  have HLr := Lib.hid (HLd.out.below HR.out.below)
  have Hgr := Lib.hid (keepB HR.out.below Hg2.out)
  have p0 : wr.cell? ⟨g, 0, none⟩ = some (.int .i64 most) := cell_blk Hgr.out rfl
  have p1 : wr.cell? ⟨g, 1, none⟩ = some (.slice A1 zs.length c1) := cell_blk Hgr.out rfl
  have p2 : wr.cell? ⟨g, 2, none⟩ = some (.pointer none) := cell_blk Hgr.out rfl
  by_cases h12 : rest.length < 12
  · have hd : decide ((12 : Int) ≤ rest.length) = false := by simp; omega
    have hcut : cut most zs = (fs, rest, 0, 0) := by rw [HR.out.cut, cut_short h12]; simp
    have HC := Lib.hid hcut
    clear hcut
    by_cases hlz : rest.length < zs.length
    · go_wp2_with fail
      refine (clone_any HR.out.rd.now (by omega)).mono ?_
      rintro e w3 ⟨v3, rfl, ho3, hb3⟩
      obtain ⟨A3, c3, rfl, _⟩ := Own.bs ho3 HR.out.rd.now.byt
      have HO3 := Lib.hid ho3
      have HB3 := Lib.hid hb3
      have Hg3 := Lib.hid (keepB hb3 Hgr.out)
      clear ho3 hb3
      have q1 : w3.cell? ⟨g, 1, none⟩ = some (.slice A1 zs.length c1) := cell_blk Hg3.out rfl
      have r1 : w3.frozen? ⟨g, 1, none⟩ = false := free_blk Hg3.out
      go_wp2_with fail
      rw [Exit.noGoto_ret]
      go_ret2
      refine ⟨_, _, .slice A3 rest.length c3, rfl, ?_⟩
      exact fed_clone HB2.out HK2.out HR.out.below hgz hg0 HR.out.out HC.out HO3.out HB3.out Hg3.out
    · go_wp2_with fail
      rw [Exit.noGoto_ret]
      go_ret2
      refine ⟨_, _, .slice A1 zs.length c1, rfl, ?_⟩
      refine fed_same HB2.out HK2.out HR.out.below Hgr.out HO2.out HR.out.out HC.out ?_ HA1.out
      obtain ⟨k, hk⟩ := HR.out.suf
      have : rest.length = zs.length - k := by rw [hk]; simp
      rw [hk]
      rcases Nat.eq_zero_or_pos k with h0 | h0
      · rw [h0]; rfl
      · have hz0 : zs.length = 0 := by omega
        rw [List.eq_nil_of_length_eq_zero hz0]; simp
  · have hd : decide ((12 : Int) ≤ rest.length) = true := by simp; omega
    have hc12 : (12 : Int) ≤ c2 := by omega
    have hI := D_in HR.out.rd.now.byt
    obtain ⟨d0, d1, d2, d3, d4, d5⟩ := D_take h12
    have hdec := decode_any HGr.out (HR.out.rd.now.take' 12 (by omega))
    rw [d0, d1, d2, d3, d4, d5] at hdec
    have hev : errv sa 0 = .nilIface := rfl
    clear d0 d1 d2 d3 d4 d5
    have hck : chkX most rest = chk (D0 rest) (D1 rest) (D2 rest) (D3 rest) (D4 rest) most := rfl
    have hsx : szX rest = (szF (D1 rest) (D4 rest)).toNat := rfl
    have hhd : hdOf rest = ⟨D0 rest, D1 rest, D2 rest, D3 rest, D4 rest⟩ := rfl
    have hst : ∀ e, chkX most rest = e → e ≠ 0 → cut most rest = ([], [], e, D3 rest) := fun e he h0 => by subst he; exact cut_bad h12 h0
    generalize D0 rest = x0 at hdec hI hck hsx hhd hst
    generalize D1 rest = x1 at hdec hI hck hsx hhd hst
    generalize D2 rest = x2 at hdec hI hck hsx hhd hst
    generalize D3 rest = x3 at hdec hI hck hsx hhd hst
    generalize D4 rest = x4 at hdec hI hck hsx hhd hst
    have HI := Lib.hid hI
    have HCK := Lib.hid hck
    have HSX := Lib.hid hsx
    have HHD := Lib.hid hhd
    have HST := Lib.hid hst
    clear hI hck hsx hhd hst
    go_wp2_with fail
    refine hdec.mono ?_
    rintro e w3 ⟨rfl, hb3⟩
    have HB3 := Lib.hid hb3
    have Hg3 := Lib.hid (keepB hb3 Hgr.out)
    clear hb3 hdec p0 p1 p2
    go_wp2_with fail
    obtain ⟨w4, hw4⟩ : ∃ w4, w4 = w3.alloc (.cells #[.int .u8 x0, .int .u8 x1, .int .u16 x2, .int .u32 x3, .int .u32 x4] 25) := ⟨_, rfl⟩
    have hh4 : w4.heap[w3.heap.size]? = some (.cells #[.int .u8 x0, .int .u8 x1, .int .u16 x2, .int .u32 x3, .int .u32 x4] 25 (0, 0)) := by rw [hw4]; exact alloc_blk _ _
    have HB4 := Lib.hid (show Below wr.heap.size wr w4 by rw [hw4]; exact HB3.out.alloc HB3.out.size _)
    rw [← hw4]
    have Hh4 := Lib.hid hh4
    have Hg4 := Lib.hid (keepB HB4.out Hgr.out)
    clear hh4 hw4 HB3 Hg3
    have h0 : w4.cell? ⟨w3.heap.size, 0, none⟩ = some (.int .u8 x0) := cell_blk Hh4.out rfl
    have h1 : w4.cell? ⟨w3.heap.size, 1, none⟩ = some (.int .u8 x1) := cell_blk Hh4.out rfl
    have h2 : w4.cell? ⟨w3.heap.size, 2, none⟩ = some (.int .u16 x2) := cell_blk Hh4.out rfl
    have h3 : w4.cell? ⟨w3.heap.size, 3, none⟩ = some (.int .u32 x3) := cell_blk Hh4.out rfl
    have h4 : w4.cell? ⟨w3.heap.size, 4, none⟩ = some (.int .u32 x4) := cell_blk Hh4.out rfl
    have p0 : w4.cell? ⟨g, 0, none⟩ = some (.int .i64 most) := cell_blk Hg4.out rfl
    refine start_ (n := 7) (S := fun w' => w'.cell? ⟨w3.heap.size, 0, none⟩ = some (.int .u8 x0) ∧ w'.cell? ⟨w3.heap.size, 1, none⟩ = some (.int .u8 x1) ∧ w'.cell? ⟨w3.heap.size, 2, none⟩ = some (.int .u16 x2) ∧ w'.cell? ⟨w3.heap.size, 3, none⟩ = some (.int .u32 x3) ∧ w'.cell? ⟨w3.heap.size, 4, none⟩ = some (.int .u32 x4) ∧ w'.cell? ⟨g, 0, none⟩ = some (.int .i64 most) ∧ Hid (Below w4.heap.size w4 w')) (ds := []) (bM 7 0) (by kernel_rfl) rfl rfl (⟨h0, h1, h2, h3, h4, p0, Lib.hid (Below.refl _ _).drew⟩) (fun hHeld => ?_)
    refine pu_ 1 50 ?_ (bM 7 2) rfl rfl (by kernel_rfl) (.inl ⟨by rfl, ?_⟩) ?_ ?_ ?_; rotate_left
    · intro w'; go_simp; with_reducible rfl
    rotate_left
    · simp only [pA_, i64_w]; rfl
    refine pu_ 2 51 ?_ (bM 7 6) rfl rfl (by kernel_rfl) (.inl ⟨by rfl, ?_⟩) ?_ ?_ ?_; rotate_left
    · intro w'; go_simp; with_reducible rfl
    rotate_left
    · simp only [pA_, i64_w]; rfl
    refine pu_ 3 52 ?_ (bM 7 14) rfl rfl (by kernel_rfl) (.inl ⟨by rfl, ?_⟩) ?_ ?_ ?_; rotate_left
    · intro w'; go_simp; with_reducible rfl
    rotate_left
    · simp only [pA_, i64_w]; rfl
    refine tk_ 0 49 ?_ (bM 7 15) rfl rfl (by kernel_rfl) (.inl ⟨by rfl, ?_⟩) hHeld ?_ ?_ ?_; rotate_left
    · rintro w' ⟨s0, s1, s2, s3, s4, s5, s6⟩; go_simp; with_reducible rfl
    rotate_left
    · simp only [pA_, i64_w]; rfl
    refine tk_ 4 53 ?_ (bM 7 31) rfl rfl (by kernel_rfl) (.inl ⟨by rfl, ?_⟩) hHeld ?_ ?_ ?_; rotate_left
    · rintro w' ⟨s0, s1, s2, s3, s4, s5, s6⟩; go_simp; with_reducible rfl
    rotate_left
    · simp only [pA_, i64_w]; rfl
    refine one_ (i := 5) (N := some 54) (bM 7 63) rfl rfl (by kernel_rfl) (by decide) (fun K hK => ?_)
    refine goes_ Tryz.func26 (by kernel_rfl) rfl #[hdr x0 x1 x2 x3 x4, .int .i64 most] (by rfl) rfl rfl (by simp only [List.map_toArray, List.map_cons, List.map_nil]; rfl) ?_
    with_reducible refine (check_any (HGr.out.below (HB4.out.trans (hHeld.2.2.2.2.2.2.out.mono HB4.out.size))) (HLr.out.below (HB4.out.trans (hHeld.2.2.2.2.2.2.out.mono HB4.out.size))) x0 x1 x2 x3 x4 most HI.out.t0 HI.out.t1 HI.out.l0 HI.out.l1).mono ?_
    rintro e w5 ⟨rfl, hb5⟩
    refine ⟨_, rfl, ?_⟩
    have HB5 := Lib.hid hb5
    clear hb5
    refine hK.out _ _ (⟨keepA HB5.out hHeld.1, keepA HB5.out hHeld.2.1, keepA HB5.out hHeld.2.2.1, keepA HB5.out hHeld.2.2.2.1, keepA HB5.out hHeld.2.2.2.2.1, keepA HB5.out hHeld.2.2.2.2.2.1, Lib.hid (belowT hHeld.2.2.2.2.2.2.out HB5.out)⟩) (fun hHeld => ?_)
    clear hK K
    refine norm_ (a' := ?_) ?_ ?_
    rotate_left
    · show Act.put _ (some 54) _ = _
      simp only [pA_, i64_w]
      rfl
    refine pu_ 6 9 ?_ (bM 7 127) rfl rfl (by kernel_rfl) (.inl ⟨by rfl, ?_⟩) ?_ ?_ ?_; rotate_left
    · intro w'; go_simp; with_reducible rfl
    rotate_left
    · simp only [pA_, i64_w]; rfl
    refine done_ (by kernel_rfl) ?_
    have HBb := Lib.hid (belowT HB4.out hHeld.2.2.2.2.2.2.out)
    have Hg5 := Lib.hid (keepB hHeld.2.2.2.2.2.2.out Hg4.out)
    have Hh5 := Lib.hid (keepB hHeld.2.2.2.2.2.2.out Hh4.out)
    clear hHeld HB5 h0 h1 h2 h3 h4 p0
    by_cases hz : chkX most rest = 0
    · have e9 : errv sa (chk x0 x1 x2 x3 x4 most) = .nilIface := by rw [← HCK.out, hz]; rfl
      rw [e9]
      have HZZ := Lib.hid hz
      clear hz e9
      have h0 : w5.cell? ⟨w3.heap.size, 0, none⟩ = some (.int .u8 x0) := cell_blk Hh5.out rfl
      have h1 : w5.cell? ⟨w3.heap.size, 1, none⟩ = some (.int .u8 x1) := cell_blk Hh5.out rfl
      have h2 : w5.cell? ⟨w3.heap.size, 2, none⟩ = some (.int .u16 x2) := cell_blk Hh5.out rfl
      have h3 : w5.cell? ⟨w3.heap.size, 3, none⟩ = some (.int .u32 x3) := cell_blk Hh5.out rfl
      have h4 : w5.cell? ⟨w3.heap.size, 4, none⟩ = some (.int .u32 x4) := cell_blk Hh5.out rfl
      go_wp2_with fail
      refine (size_any x0 x1 x2 x3 x4 w5 HI.out.l0 HI.out.l1).mono ?_
      rintro e w6 ⟨rfl, hb6⟩
      have HB6 := Lib.hid (hb6 : Below w5.heap.size w5 w6)
      have HBc := Lib.hid (belowT HBb.out hb6)
      have Hg6 := Lib.hid (keepB hb6 Hg5.out)
      have Hh6 := Lib.hid (keepB hb6 Hh5.out)
      clear hb6 h0 h1 h2 h3 h4
      have hsz0 : (szX rest : Int) = szF x1 x4 := by rw [HSX.out]; have := szF_nonneg x1 HI.out.l0; omega
      have hsz1 := szF_le x1 HI.out.l0 HI.out.l1
      have hw12 : IntKind.i64.wrap ((rest.length : Int) - 12) = (rest.length : Int) - 12 := by rw [IntKind.wrap_i64]; omega
      generalize szF x1 x4 = sz at hsz0 hsz1 ⊢
      have p1 : w6.cell? ⟨g, 1, none⟩ = some (.slice A1 zs.length c1) := cell_blk Hg6.out rfl
      have HRD := Lib.hid (HR.out.rd.below HBc.out)
      by_cases hp : (rest.length : Int) - 12 < sz
      · have hdp : decide ((rest.length : Int) - 12 < sz) = true := by simp; omega
        have hcut : cut most zs = (fs, rest, 0, 0) := by rw [HR.out.cut, cut_part h12 HZZ.out (by omega)]; simp
        have HC := Lib.hid hcut
        clear hcut
        by_cases hlz : rest.length < zs.length
        · go_wp2_with fail
          refine (clone_any HRD.out.now (by omega)).mono ?_
          rintro e w7 ⟨v3, rfl, ho3, hb3⟩
          obtain ⟨A3, c3, rfl, _⟩ := Own.bs ho3 HR.out.rd.now.byt
          have HO3 := Lib.hid ho3
          have HB3 := Lib.hid hb3
          have Hg3 := Lib.hid (keepB hb3 Hg6.out)
          clear ho3 hb3
          have q1 : w7.cell? ⟨g, 1, none⟩ = some (.slice A1 zs.length c1) := cell_blk Hg3.out rfl
          have r1 : w7.frozen? ⟨g, 1, none⟩ = false := free_blk Hg3.out
          go_wp2_with fail
          rw [Exit.noGoto_ret]
          go_ret2
          refine ⟨_, _, .slice A3 rest.length c3, rfl, ?_⟩
          exact fed_clone HB2.out HK2.out HR.out.below hgz hg0 HR.out.out HC.out (HO3.out.lower HBc.out.size) (belowT HBc.out HB3.out) Hg3.out
        · go_wp2_with fail
          rw [Exit.noGoto_ret]
          go_ret2
          refine ⟨_, _, .slice A1 zs.length c1, rfl, ?_⟩
          refine fed_same HB2.out HK2.out (belowT HR.out.below HBc.out) Hg6.out HO2.out (Kd.N_below HR.out.out HBc.out) HC.out ?_ HA1.out
          obtain ⟨k, hk⟩ := HR.out.suf
          have : rest.length = zs.length - k := by rw [hk]; simp
          rw [hk]
          rcases Nat.eq_zero_or_pos k with h0 | h0
          · rw [h0]; rfl
          · have hz0 : zs.length = 0 := by omega
            rw [List.eq_nil_of_length_eq_zero hz0]; simp
      · have hdp : decide ((rest.length : Int) - 12 < sz) = false := by simp; omega
        have hfl : fs.length ≤ 1099511627776 := by have := cut_len most zs; rw [HR.out.cut] at this; simp at this; omega
        by_cases hs0 : sz = 0
        · obtain rfl := hs0
          have h0 : w6.cell? ⟨w3.heap.size, 0, none⟩ = some (.int .u8 x0) := cell_blk Hh6.out rfl
          have h1 : w6.cell? ⟨w3.heap.size, 1, none⟩ = some (.int .u8 x1) := cell_blk Hh6.out rfl
          have h2 : w6.cell? ⟨w3.heap.size, 2, none⟩ = some (.int .u16 x2) := cell_blk Hh6.out rfl
          have h3 : w6.cell? ⟨w3.heap.size, 3, none⟩ = some (.int .u32 x3) := cell_blk Hh6.out rfl
          have h4 : w6.cell? ⟨w3.heap.size, 4, none⟩ = some (.int .u32 x4) := cell_blk Hh6.out rfl
          have hN6 := Lib.hid (Kd.N_below HR.out.out HBc.out)
          go_wp2_with (at_builtin; refine fr_append (w0 := w2) (W := w6) rfl _ _ rfl u7 fs ⟨⟨x0, x1, x2, x3, x4⟩, []⟩ none 0 (fun k => w2.heap.size ≤ k) (fun _ => False) (by simp) (Kd.F_nil _ _ _) (fun _ h => h.elim) (fun k hk => Nat.le_trans (belowT HR.out.below HBc.out).size hk) rfl rfl hN6.out (belowT HR.out.below HBc.out) hfl ?_; intro v7 w7 hn7 hb7 hg7; have HN7 := Lib.hid hn7; have HB7 := Lib.hid hb7; clear hn7 hb7 hg7)
          go_roundw
          case rel => exact ⟨_, _, _, _, _, rfl, Lib.hid (HR.out.next (m := 12) HBZ.out h12 HZZ.out (by omega) (by omega) (by omega) (by rw [HHD.out, show szX rest = 0 by omega]; rfl) HB7.out HN7.out)⟩
          case measure => simp [lenOf]; omega
        · have hs9 : (sz == 0) = false := by simp [hs0]
          obtain ⟨q, rfl⟩ : ∃ q : Nat, sz = (q : Int) := ⟨szX rest, hsz0.symm⟩
          have hqs : szX rest = q := by omega
          have hwe : IntKind.i64.wrap (12 + (q : Int)) = 12 + (q : Int) := by rw [IntKind.wrap_i64]; omega
          have hle : 12 + q ≤ rest.length := by omega
          have h0 : w6.cell? ⟨w3.heap.size, 0, none⟩ = some (.int .u8 x0) := cell_blk Hh6.out rfl
          have h1 : w6.cell? ⟨w3.heap.size, 1, none⟩ = some (.int .u8 x1) := cell_blk Hh6.out rfl
          have h2 : w6.cell? ⟨w3.heap.size, 2, none⟩ = some (.int .u16 x2) := cell_blk Hh6.out rfl
          have h3 : w6.cell? ⟨w3.heap.size, 3, none⟩ = some (.int .u32 x3) := cell_blk Hh6.out rfl
          have h4 : w6.cell? ⟨w3.heap.size, 4, none⟩ = some (.int .u32 x4) := cell_blk Hh6.out rfl
          have hnt : (12 + (q : Int)).toNat = 12 + q := by omega
          have hlb : ((rest.drop 12).take q).length = q := by simp; omega
          have g1 : (12 : Int) ≤ 12 + (q : Int) := by omega
          have g2 : (12 : Int) + (q : Int) ≤ (c2 : Int) := by omega
          have hN6 := Lib.hid (Kd.N_below HR.out.out HBc.out)
          obtain ⟨pb, hpb⟩ : ∃ pb, pb = (rest.drop 12).take q := ⟨_, rfl⟩
          have HPB := Lib.hid hpb
          have HPX := Lib.hid (show ∀ x ∈ pb, 0 ≤ x ∧ x ≤ 255 by rw [hpb]; exact fun x hx => HR.out.rd.now.byt x (List.mem_of_mem_drop (List.mem_of_mem_take hx)))
          clear hpb hlb
          have HKK : _ ∧ _ ∧ _ ∧ _ ∧ _ ∧ True := ⟨h0, h1, h2, h3, h4, trivial⟩
          go_wp2_with fail
          refine start_ (n := 10) (S := fun w' => w'.cell? ⟨w3.heap.size, 0, none⟩ = some (.int .u8 x0) ∧ w'.cell? ⟨w3.heap.size, 1, none⟩ = some (.int .u8 x1) ∧ w'.cell? ⟨w3.heap.size, 2, none⟩ = some (.int .u16 x2) ∧ w'.cell? ⟨w3.heap.size, 3, none⟩ = some (.int .u32 x3) ∧ w'.cell? ⟨w3.heap.size, 4, none⟩ = some (.int .u32 x4) ∧ Hid (Below w6.heap.size w6 w')) (ds := [8]) (bM 10 0) (by kernel_rfl) rfl rfl (⟨h0, h1, h2, h3, h4, Lib.hid (Below.refl _ _).drew⟩) (fun hHeld => ?_)
          refine pu_ 0 95 ?_ (bM 10 1) rfl rfl (by kernel_rfl) (.inl ⟨by rfl, ?_⟩) ?_ ?_ ?_; rotate_left
          · intro w'; go_simp; with_reducible rfl
          rotate_left
          · simp only [pA_, i64_w]; rfl
          refine pu_ 2 97 ?_ (bM 10 5) rfl rfl (by kernel_rfl) (.inl ⟨by rfl, ?_⟩) ?_ ?_ ?_; rotate_left
          · intro w'; go_simp; with_reducible rfl
          rotate_left
          · simp only [pA_, i64_w]; rfl
          refine pu_ 3 98 ?_ (bM 10 13) rfl rfl (by kernel_rfl) (.inl ⟨by rfl, ?_⟩) ?_ ?_ ?_; rotate_left
          · intro w'; go_simp; with_reducible rfl
          rotate_left
          · simp only [pA_, i64_w]; rfl
          refine pu_ 4 99 ?_ (bM 10 29) rfl rfl (by kernel_rfl) (.inl ⟨by rfl, ?_⟩) ?_ ?_ ?_; rotate_left
          · intro w'; go_simp; with_reducible rfl
          rotate_left
          · simp only [pA_, i64_w]; rfl
          refine tk_ 1 96 ?_ (bM 10 31) rfl rfl (by kernel_rfl) (.inl ⟨by rfl, ?_⟩) hHeld ?_ ?_ ?_; rotate_left
          · rintro w' ⟨s0, s1, s2, s3, s4, s5⟩; go_simp; with_reducible rfl
          rotate_left
          · simp only [pA_, i64_w]; rfl
          refine one_ (i := 5) (N := some 100) (bM 10 63) rfl rfl (by kernel_rfl) (by decide) (fun K hK => ?_)
          refine goes_ Tryz.func81 (by kernel_rfl) rfl #[.slice (if c2 = 12 then A2 else A2.map (·.add 12)) q (c2 - 12)] (by rfl) rfl rfl (by simp only [List.map_toArray, List.map_cons, List.map_nil]; rfl) ?_
          with_reducible refine (clone_any (((HRD.out.below hHeld.2.2.2.2.2.out).drop 12 (by omega)).take q (by omega)).now (by omega)).mono ?_
          rintro e w7 ⟨vc, rfl, ho7, hb7⟩
          refine ⟨_, rfl, ?_⟩
          rw [← HPB.out] at ho7
          obtain ⟨A7, c7, rfl, hq7⟩ := Own.fbs ho7 HPX.out
          have HB67 := Lib.hid (belowT hHeld.2.2.2.2.2.out hb7)
          have HO7 := Lib.hid (ho7.lower hHeld.2.2.2.2.2.out.size)
          have HQ7 := Lib.hid hq7
          clear hb7 ho7 hq7
          refine hK.out _ _ (⟨keepA HB67.out HKK.1, keepA HB67.out HKK.2.1, keepA HB67.out HKK.2.2.1, keepA HB67.out HKK.2.2.2.1, keepA HB67.out HKK.2.2.2.2.1, HB67⟩) (fun hHeld => ?_)
          clear hK K
          refine norm_ (a' := ?_) ?_ ?_
          rotate_left
          · show Act.put _ (some 100) _ = _
            simp only [pA_, i64_w]
            rfl
          refine pu_ 6 101 ?_ (bM 10 127) rfl rfl (by kernel_rfl) (.inl ⟨by rfl, ?_⟩) ?_ ?_ ?_; rotate_left
          · intro w'; go_simp; with_reducible rfl
          rotate_left
          · simp only [pA_, i64_w]; rfl
          refine one_ (i := 7) (N := some 102) (bM 10 255) rfl rfl (by kernel_rfl) (by decide) (fun K hK => ?_)
          refine value_ (w1 := ?_) (v := ?_) (by rfl) rfl ?_ ?_
          rotate_left 2
          · go_simp
            constructor
            · rfl
            · rfl
          have hba : Below w7.heap.size w7 (w7.alloc (.cells #[.int .u8 x0, .int .u8 x1, .int .u16 x2, .int .u32 x3, .int .u32 x4, .slice A7 pb.length c7] 28)) := (Below.refl _ _).alloc (Nat.le_refl _) _
          refine hK.out _ _ (⟨keepA hba hHeld.1, keepA hba hHeld.2.1, keepA hba hHeld.2.2.1, keepA hba hHeld.2.2.2.1, keepA hba hHeld.2.2.2.2.1, Lib.hid (belowT hHeld.2.2.2.2.2.out hba)⟩) (fun hHeld => ?_)
          clear hK K
          refine norm_ (a' := ?_) ?_ ?_
          rotate_left
          · show Act.put _ (some 102) _ = _
            simp only [pA_, i64_w]
            rfl
          refine last_ (i := 8) (N := some 103) (bM 10 511) rfl rfl (by kernel_rfl) (by decide) (fun K hK => ?_)
          refine fr_append_step (w0 := w2) (W := w7) (by rfl) (.tmp 95) (.tmp 102) rfl u7 fs ⟨⟨x0, x1, x2, x3, x4⟩, pb⟩ A7 c7 (fun k => w2.heap.size ≤ k) (fun k => some k = (Value.slice A7 pb.length c7).ownBlock) HQ7.out.now.cap HQ7.out.F ?_ (fun k hk => Nat.le_trans (belowT (belowT HR.out.below HBc.out) HB67.out).size hk) rfl rfl (Kd.N_below hN6.out HB67.out) (belowT (belowT HR.out.below HBc.out) HB67.out) hfl ?_
          · intro k hk
            have h1 := (HO7.out.blk k hk.symm).1
            have h2 := HR.out.below.size
            have h3 := HBc.out.size
            exact ⟨by omega, fun e => by have := Kd.N_lt hN6.out k e.symm; omega⟩
          intro v8 w8 hn8 hb8 hg8
          have HN8 := Lib.hid hn8
          have HB8 := Lib.hid hb8
          clear hn8 hb8 hg8
          refine hK.out _ _ ?_
          clear hK K
          refine norm_ (a' := ?_) ?_ ?_
          rotate_left
          · show Act.put _ (some 103) _ = _
            simp only [pA_, i64_w]
            rfl
          refine pu_ 9 7 ?_ (bM 10 1023) rfl rfl (by kernel_rfl) (.inl ⟨by rfl, ?_⟩) ?_ ?_ ?_; rotate_left
          · intro w'; go_simp; with_reducible rfl
          rotate_left
          · simp only [pA_, i64_w]; rfl
          refine done_ (by kernel_rfl) ?_
          clear hHeld HB67 HO7 HQ7 HKK h0 h1 h2 h3 h4
          have g3 : 12 + (q : Int) ≤ (rest.length : Int) := by omega
          go_wp2_with fail
          go_roundw
          case rel => exact ⟨_, _, _, _, _, rfl, Lib.hid (HR.out.next (m := 12 + q) HBZ.out h12 HZZ.out (by omega) (by omega) (by omega) (by rw [HHD.out, HPB.out, hqs]) HB8.out HN8.out)⟩
          case measure => simp [lenOf]; omega
    · have e9 : errv sa (chk x0 x1 x2 x3 x4 most) = sv (sa (chkX most rest)) := by rw [← HCK.out]; unfold errv; rw [if_neg hz]
      rw [e9]
      have hcd := cut_code most rest
      rw [HST.out _ rfl hz] at hcd
      simp only at hcd
      have he1 : 11 ≤ chkX most rest := by omega
      have he2 : chkX most rest ≤ 15 := by omega
      have hcut : cut most zs = (fs, [], chkX most rest, x3) := by rw [HR.out.cut, HST.out _ rfl hz]; simp
      have HC := Lib.hid hcut
      clear hcut hcd e9 HI HCK HSX HHD HST
      generalize chkX most rest = ec at hz he1 he2 HC ⊢
      have h3 : w5.cell? ⟨w3.heap.size, 3, none⟩ = some (.int .u32 x3) := cell_blk Hh5.out rfl
      go_wp2_with fail
      refine start_ (n := 10) (S := fun w' => w'.cell? ⟨w3.heap.size, 3, none⟩ = some (.int .u32 x3) ∧ Hid (Below w5.heap.size w5 w')) (ds := [9]) (bM 10 0) (by kernel_rfl) rfl rfl (⟨h3, Lib.hid (Below.refl _ _).drew⟩) (fun hHeld => ?_)
      refine pu_ 0 57 ?_ (bM 10 1) rfl rfl (by kernel_rfl) (.inl ⟨by rfl, ?_⟩) ?_ ?_ ?_; rotate_left
      · intro w'; go_simp; with_reducible rfl
      rotate_left
      · simp only [pA_, i64_w]; rfl
      refine pu_ 1 58 ?_ (bM 10 3) rfl rfl (by kernel_rfl) (.inl ⟨by rfl, ?_⟩) ?_ ?_ ?_; rotate_left
      · intro w'; go_simp; with_reducible rfl
      rotate_left
      · simp only [pA_, i64_w]; rfl
      refine pu_ 3 60 ?_ (bM 10 11) rfl rfl (by kernel_rfl) (.inl ⟨by rfl, ?_⟩) ?_ ?_ ?_; rotate_left
      · intro w'; go_simp; with_reducible rfl
      rotate_left
      · simp only [pA_, i64_w]; rfl
      refine tk_ 2 59 ?_ (bM 10 15) rfl rfl (by kernel_rfl) (.inl ⟨by rfl, ?_⟩) hHeld ?_ ?_ ?_; rotate_left
      · rintro w' ⟨s0, s1⟩; go_simp; with_reducible rfl
      rotate_left
      · simp only [pA_, i64_w]; rfl
      refine one_ (i := 4) (N := some 61) (bM 10 31) rfl rfl (by kernel_rfl) (by decide) (fun K hK => ?_)
      refine goes_ Tryz.func80 (by kernel_rfl) rfl #[sv (sa ec)] (by rfl) rfl rfl (by simp only [List.map_toArray, List.map_cons, List.map_nil]; rfl) ?_
      with_reducible refine (sentinel_of (HGr.out.below (HBb.out.trans (hHeld.2.out.mono HBb.out.size))) ec he1 he2).mono ?_
      rintro e w6 ⟨rfl, hb6⟩
      refine ⟨_, rfl, ?_⟩
      have HB6 := Lib.hid hb6
      have HB56 := Lib.hid (belowT hHeld.2.out hb6)
      clear hb6
      refine hK.out _ _ (⟨keepA HB6.out hHeld.1, Lib.hid (belowT hHeld.2.out HB6.out)⟩) (fun hHeld => ?_)
      clear hK K
      refine norm_ (a' := ?_) ?_ ?_
      rotate_left
      · show Act.put _ (some 61) _ = _
        simp only [pA_, i64_w]
        rfl
      refine pu_ 5 62 ?_ (bM 10 63) rfl rfl (by kernel_rfl) (.inl ⟨by rfl, ?_⟩) ?_ ?_ ?_; rotate_left
      · intro w'; go_simp; with_reducible rfl
      rotate_left
      · simp only [pA_, i64_w]; rfl
      refine one_ (i := 6) (N := some 63) (bM 10 127) rfl rfl (by kernel_rfl) (by decide) (fun K hK => ?_)
      refine value_ (w1 := ?_) (v := ?_) (by rfl) rfl ?_ ?_
      rotate_left 2
      · go_simp
        constructor
        · rfl
        · rfl
      have hbv : (w6.alloc (vbox x3 sa ec)).heap[w6.heap.size]? = some (vbox x3 sa ec) := alloc_blk _ _
      have hb7 : Below w6.heap.size w6 (w6.alloc (vbox x3 sa ec)) := (Below.refl _ _).alloc (Nat.le_refl _) _
      generalize w6.alloc (vbox x3 sa ec) = w7 at hbv hb7 ⊢
      have HBV := Lib.hid hbv
      have HB7 := Lib.hid hb7
      have HB57 := Lib.hid (belowT hHeld.2.out HB7.out)
      clear hbv hb7
      have Hg7 := Lib.hid (keepB HB57.out Hg5.out)
      have q2 : w7.cell? ⟨g, 2, none⟩ = some (.pointer none) := cell_blk Hg7.out rfl
      have r2 : w7.frozen? ⟨g, 2, none⟩ = false := free_blk Hg7.out
      refine hK.out _ _ (⟨keepA HB7.out hHeld.1, HB57⟩) (fun hHeld => ?_)
      clear hK K
      refine norm_ (a' := ?_) ?_ ?_
      rotate_left
      · show Act.put _ (some 63) _ = _
        simp only [pA_, i64_w]
        rfl
      refine pu_ 7 64 ?_ (bM 10 255) rfl rfl (by kernel_rfl) (.inl ⟨by rfl, ?_⟩) ?_ ?_ ?_; rotate_left
      · intro w'; go_simp; with_reducible rfl
      rotate_left
      · simp only [pA_, i64_w]; rfl
      refine pu_ 8 65 ?_ (bM 10 511) rfl rfl (by kernel_rfl) (.inl ⟨by rfl, ?_⟩) ?_ ?_ ?_; rotate_left
      · intro w'; go_simp; with_reducible rfl
      rotate_left
      · simp only [pA_, i64_w]; rfl
      refine last_ (i := 9) (N := none) (bM 10 1023) rfl rfl (by kernel_rfl) (by decide) (fun K hK => ?_)
      refine skip_ (w1 := ?_) (by rfl) rfl ?_ ?_
      rotate_left
      · go_simp
        rfl
      refine hK.out _ _ ?_
      clear hK K
      refine done_ (by kernel_rfl) ?_
      obtain ⟨w8, hw8⟩ : ∃ w8, w8 = w7.setCell ⟨g, 2, none⟩ (.pointer (some ⟨w6.heap.size, 0, none⟩)) := ⟨_, rfl⟩
      rw [← hw8]
      have Hg8 := Lib.hid (show w8.heap[g]? = some (dbox most (.slice A1 zs.length c1) (some ⟨w6.heap.size, 0, none⟩)) by rw [hw8]; exact set_blk _ Hg7.out)
      have HW8 := Lib.hid hw8
      have h6 : wr.heap.size ≤ w6.heap.size := Nat.le_trans HBb.out.size HB56.out.size
      clear hw8 hHeld q2 r2 HB6 HB7 h3
      have q1 : w8.cell? ⟨g, 1, none⟩ = some (.slice A1 zs.length c1) := cell_blk Hg8.out rfl
      have r1 : w8.frozen? ⟨g, 1, none⟩ = false := free_blk Hg8.out
      go_wp2_with fail
      obtain ⟨w9, hw9⟩ : ∃ w9, w9 = w8.setCell ⟨g, 1, none⟩ (.slice none 0 0) := ⟨_, rfl⟩
      rw [← hw9]
      have Hg9 := Lib.hid (show w9.heap[g]? = some (dbox most (.slice none 0 0) (some ⟨w6.heap.size, 0, none⟩)) by rw [hw9]; exact set_blk _ Hg8.out)
      have HW9 := Lib.hid hw9
      have q2 : w9.cell? ⟨g, 2, none⟩ = some (.pointer (some ⟨w6.heap.size, 0, none⟩)) := cell_blk Hg9.out rfl
      clear hw9 q1 r1
      refine start_ (n := 8) (S := fun w' => w'.cell? ⟨g, 2, none⟩ = some (.pointer (some ⟨w6.heap.size, 0, none⟩))) (ds := []) (bM 8 0) (by kernel_rfl) rfl rfl (q2) (fun hHeld => ?_)
      refine pu_ 0 69 ?_ (bM 8 1) rfl rfl (by kernel_rfl) (.inl ⟨by rfl, ?_⟩) ?_ ?_ ?_; rotate_left
      · intro w'; go_simp; with_reducible rfl
      rotate_left
      · simp only [pA_, i64_w]; rfl
      refine pu_ 1 70 ?_ (bM 8 3) rfl rfl (by kernel_rfl) (.inl ⟨by rfl, ?_⟩) ?_ ?_ ?_; rotate_left
      · intro w'; go_simp; with_reducible rfl
      rotate_left
      · simp only [pA_, i64_w]; rfl
      refine pu_ 2 71 ?_ (bM 8 7) rfl rfl (by kernel_rfl) (.inl ⟨by rfl, ?_⟩) ?_ ?_ ?_; rotate_left
      · intro w'; go_simp; with_reducible rfl
      rotate_left
      · simp only [pA_, i64_w]; rfl
      refine pu_ 3 72 ?_ (bM 8 15) rfl rfl (by kernel_rfl) (.inl ⟨by rfl, ?_⟩) ?_ ?_ ?_; rotate_left
      · intro w'; go_simp; with_reducible rfl
      rotate_left
      · simp only [pA_, i64_w]; rfl
      refine pu_ 6 4 ?_ (bM 8 79) rfl rfl (by kernel_rfl) (.inl ⟨by rfl, ?_⟩) ?_ ?_ ?_; rotate_left
      · intro w'; go_simp; with_reducible rfl
      rotate_left
      · simp only [pA_, i64_w]; rfl
      refine tk_ 4 73 ?_ (bM 8 95) rfl rfl (by kernel_rfl) (.inl ⟨by rfl, ?_⟩) hHeld ?_ ?_ ?_
      rotate_left
      · intro w' s0
        go_simp
        with_reducible rfl
      rotate_left
      · simp only [pA_, i64_w]
        rfl
      refine pu_ 5 74 ?_ (bM 8 127) rfl rfl (by kernel_rfl) (.inl ⟨by rfl, ?_⟩) ?_ ?_ ?_; rotate_left
      · intro w'; go_simp; with_reducible rfl
      rotate_left
      · simp only [pA_, i64_w]; rfl
      refine pu_ 7 5 ?_ (bM 8 255) rfl rfl (by kernel_rfl) (.inl ⟨by rfl, ?_⟩) ?_ ?_ ?_; rotate_left
      · intro w'; go_simp; with_reducible rfl
      rotate_left
      · simp only [pA_, i64_w]; rfl
      refine done_ (by kernel_rfl) ?_
      clear hHeld
      go_wp2_with fail
      rw [Exit.noGoto_ret]
      go_ret2
      refine ⟨u7, vv w6.heap.size 0, .slice none 0 0, rfl, ?_⟩
      rw [HW9.out, HW8.out]
      exact (fed_dead HB2.out HK2.out HR.out.below hgz hg0 HR.out.out HC.out hz (HBb.out.trans (HB57.out.mono HBb.out.size)) Hg7.out HBV.out h6).drew
end Go.Proofs.YtidmgckmphcegaaGreatDoor
/-
 feed.New and what is seen of a new decoder; FeedNames.
-/
namespace Go.Proofs.YtidmgckmphcegaaGreatDoor
open Go.RowKit
set_option linter.unusedVariables false
set_option linter.unusedSimpArgs false
set_option maxRecDepth 100000 in
theorem new_yes {w : World} (most : Int) (h1 : 1 ≤ most) (h2 : most ≤ 65536) :
    Calls Tryz.prog 41 #[.int .i64 most] w fun e w' => e = .returned (.tuple #[.pointer (some ⟨w.heap.size, 0, none⟩), .nilIface]) ∧ w'.heap[w.heap.size]? = some (.cells #[.int .i64 most, .slice none 0 0, .pointer none] 141 (0, 0)) ∧ Below w.heap.size w w' := by
 go_enter Tryz.func41, Tryz.ntmps41
 go_wp2_with fail
 go_ret2
 exact ⟨rfl, alloc_at _ _, (Below.refl _ _).alloc (Nat.le_refl _) _⟩
theorem err_nil {w : World} (g : Nat) (h : w.cell? ⟨g, 2, none⟩ = some (.pointer none)) :
    Calls Tryz.prog 68 #[.pointer (some ⟨g, 0, none⟩)] w fun e w' => e = .returned .nilIface ∧ w' = w := by
 go_enter Tryz.func68, Tryz.ntmps68
 go_wp2_with fail
 go_ret
 exact ⟨rfl, rfl⟩
theorem err_some {w : World} (g b o : Nat) (h : w.cell? ⟨g, 2, none⟩ = some (.pointer (some ⟨b, o, none⟩))) :
    Calls Tryz.prog 68 #[.pointer (some ⟨g, 0, none⟩)] w fun e w' => e = .returned (vv b o) ∧ w' = w := by
 go_enter Tryz.func68, Tryz.ntmps68
 go_wp2_with fail
 go_ret
 exact ⟨rfl, rfl⟩
end Go.Proofs.YtidmgckmphcegaaGreatDoor
/-
 A decoder that was fed xs in all: Feed, Held, Wants, Err.
-/
namespace Go.Proofs.YtidmgckmphcegaaGreatDoor
open Go.RowKit Go.Proofs.YtidmgckmphcegaaGreatDoorW.PrintWords Go.Proofs.YtidmgckmphcegaaGreatDoorW.PrintLast Go.Proofs.YtidmgckmphcegaaGreatDoor.Px
set_option linter.unusedVariables false
set_option linter.unusedSimpArgs false
def framesX (most : Int) (xs : List Int) : List Fr := (cut most xs).1
def restX (most : Int) (xs : List Int) : List Int := (cut most xs).2.1
def codeX (most : Int) (xs : List Int) : Nat := (cut most xs).2.2.1
def stX (most : Int) (xs : List Int) : Int := (cut most xs).2.2.2
def newX (most : Int) (xs ys : List Int) : List Fr := if codeX most xs = 0 then framesX most (restX most xs ++ ys) else []
theorem app_live {most : Int} {xs ys : List Int} (h : codeX most xs = 0) : framesX most (xs ++ ys) = framesX most xs ++ framesX most (restX most xs ++ ys) ∧ restX most (xs ++ ys) = restX most (restX most xs ++ ys) ∧ codeX most (xs ++ ys) = codeX most (restX most xs ++ ys) ∧ stX most (xs ++ ys) = stX most (restX most xs ++ ys) := by
 unfold framesX restX codeX stX at *
 rw [cut_app, if_pos h]
 exact ⟨rfl, rfl, rfl, rfl⟩
theorem app_dead {most : Int} {xs ys : List Int} (h : codeX most xs ≠ 0) : cut most (xs ++ ys) = cut most xs := by
 unfold codeX at h
 rw [cut_app, if_neg h]
theorem framesX_app (most : Int) (xs ys : List Int) : framesX most (xs ++ ys) = framesX most xs ++ newX most xs ys := by
 unfold newX
 split
 · rename_i h; exact (app_live h).1
 · rename_i h; rw [framesX, app_dead h, List.append_nil]; rfl
theorem cut_sub (most : Int) (xs : List Int) : ∀ x ∈ restX most xs, x ∈ xs := by
 unfold restX
 induction hn : xs.length using Nat.strongRecOn generalizing xs with
 | _ n ih =>
   subst hn
   by_cases h12 : xs.length < 12
   · rw [cut_short h12]; exact fun x h => h
   · by_cases hc : chkX most xs = 0
     · by_cases hp : xs.length - 12 < szX xs
       · rw [cut_part h12 hc hp]; exact fun x h => h
       · rw [cut_go h12 hc hp]
         intro x hx
         exact List.mem_of_mem_drop (ih (xs.drop (12 + szX xs)).length (by simp; omega) _ rfl x hx)
     · rw [cut_bad h12 hc]; intro x hx; cases hx
theorem restX_len (most : Int) (xs : List Int) : (restX most xs).length ≤ xs.length := by have := cut_len most xs; unfold restX; omega
structure DecV (sa : Nat → Addr) (w0 w : World) (g : Nat) (most : Int) (xs : List Int) (v : Value) (b : Nat) : Prop where
 live : codeX most xs = 0 → w.heap[g]? = some (dbox most v none) ∧ Own w w0.heap.size v (restX most xs)
 dead : codeX most xs ≠ 0 → w.heap[g]? = some (dbox most (.slice none 0 0) (some ⟨b, 0, none⟩)) ∧ w.heap[b]? = some (vbox (stX most xs) sa (codeX most xs)) ∧ v = .slice none 0 0
def errX (most : Int) (xs : List Int) (b : Nat) : Value := if codeX most xs = 0 then .nilIface else vv b 0
theorem DecV.step {sa : Nat → Addr} {w0 w w1 : World} {g b : Nat} {most : Int} {xs : List Int} {v : Value} (h : DecV sa w0 w g most xs v b) (hg : w1.heap[g]? = w.heap[g]?) (hv : ∀ k, v.ownBlock = some k → w1.heap[k]? = w.heap[k]?) (hb : codeX most xs ≠ 0 → w1.heap[b]? = w.heap[b]?) : DecV sa w0 w1 g most xs v b :=
 ⟨fun e => ⟨hg.trans (h.live e).1, (h.live e).2.keep hv⟩, fun e => ⟨hg.trans (h.dead e).1, (hb e).trans (h.dead e).2.1, (h.dead e).2.2⟩⟩
theorem DecV.glt {sa : Nat → Addr} {w0 w : World} {g b : Nat} {most : Int} {xs : List Int} {v : Value} (h : DecV sa w0 w g most xs v b) : g < w.heap.size := by
 by_cases e : codeX most xs = 0
 · exact (Array.getElem?_eq_some_iff.1 (h.live e).1).1
 · exact (Array.getElem?_eq_some_iff.1 (h.dead e).1).1
theorem DecV.vlt {sa : Nat → Addr} {w0 w : World} {g b : Nat} {most : Int} {xs : List Int} {v : Value} (h : DecV sa w0 w g most xs v b) : ∀ k, v.ownBlock = some k → k < w.heap.size := fun k hk => by
 by_cases e : codeX most xs = 0
 · exact ((h.live e).2.blk k hk).2
 · rw [(h.dead e).2.2] at hk; simp [Value.ownBlock] at hk
theorem DecV.blt {sa : Nat → Addr} {w0 w : World} {g b : Nat} {most : Int} {xs : List Int} {v : Value} (h : DecV sa w0 w g most xs v b) (e : codeX most xs ≠ 0) : b < w.heap.size := (Array.getElem?_eq_some_iff.1 (h.dead e).2.1).1
theorem DecV.below {sa : Nat → Addr} {w0 w w1 : World} {g b : Nat} {most : Int} {xs : List Int} {v : Value} (h : DecV sa w0 w g most xs v b) (hb : Below w.heap.size w w1) : DecV sa w0 w1 g most xs v b :=
 h.step (hb.block _ h.glt) (fun k hk => hb.block _ (h.vlt k hk)) (fun e => hb.block _ (h.blt e))
theorem err_dec {sa : Nat → Addr} {w0 w : World} {g b : Nat} {most : Int} {xs : List Int} {v : Value} (h : DecV sa w0 w g most xs v b) :
    Calls Tryz.prog 68 #[.pointer (some ⟨g, 0, none⟩)] w fun e w' => e = .returned (errX most xs b) ∧ w' = w := by
 unfold errX
 by_cases e : codeX most xs = 0
 · rw [if_pos e]; exact err_nil g (cell_blk (h.live e).1 rfl)
 · rw [if_neg e]; exact err_some g b 0 (cell_blk (h.dead e).1 rfl)
theorem feed_died {w : World} (g b : Nat) (x : Value) (h : w.cell? ⟨g, 2, none⟩ = some (.pointer (some ⟨b, 0, none⟩))) : Calls Tryz.prog 42 #[.pointer (some ⟨g, 0, none⟩), x] w fun e w' => e = .returned (.tuple #[.slice none 0 0, vv b 0]) ∧ Below w.heap.size w w' := by
 go_enter Tryz.func42, Tryz.ntmps42
 go_wp2_with fail
 go_step3
 go_wp2_with fail
 refine start_ (n := 7) (S := fun w' => w'.cell? ⟨g, 2, none⟩ = some (.pointer (some ⟨b, 0, none⟩))) (ds := []) (bM 7 0) (by kernel_rfl) rfl rfl (h) (fun hHeld => ?_)
 refine pu_ 0 20 ?_ (bM 7 1) rfl rfl (by kernel_rfl) (.inl ⟨by rfl, ?_⟩) ?_ ?_ ?_; rotate_left
 · intro w'; go_simp; with_reducible rfl
 rotate_left
 · simp only [pA_, i64_w]; rfl
 refine pu_ 1 21 ?_ (bM 7 3) rfl rfl (by kernel_rfl) (.inl ⟨by rfl, ?_⟩) ?_ ?_ ?_; rotate_left
 · intro w'; go_simp; with_reducible rfl
 rotate_left
 · simp only [pA_, i64_w]; rfl
 refine pu_ 2 22 ?_ (bM 7 7) rfl rfl (by kernel_rfl) (.inl ⟨by rfl, ?_⟩) ?_ ?_ ?_; rotate_left
 · intro w'; go_simp; with_reducible rfl
 rotate_left
 · simp only [pA_, i64_w]; rfl
 refine pu_ 5 4 ?_ (bM 7 39) rfl rfl (by kernel_rfl) (.inl ⟨by rfl, ?_⟩) ?_ ?_ ?_; rotate_left
 · intro w'; go_simp; with_reducible rfl
 rotate_left
 · simp only [pA_, i64_w]; rfl
 refine tk_ 3 23 ?_ (bM 7 47) rfl rfl (by kernel_rfl) (.inl ⟨by rfl, ?_⟩) hHeld ?_ ?_ ?_
 rotate_left
 · intro w' s0
   go_simp
   with_reducible rfl
 rotate_left
 · simp only [pA_, i64_w]
   rfl
 refine pu_ 4 24 ?_ (bM 7 63) rfl rfl (by kernel_rfl) (.inl ⟨by rfl, ?_⟩) ?_ ?_ ?_; rotate_left
 · intro w'; go_simp; with_reducible rfl
 rotate_left
 · simp only [pA_, i64_w]; rfl
 refine pu_ 6 5 ?_ (bM 7 127) rfl rfl (by kernel_rfl) (.inl ⟨by rfl, ?_⟩) ?_ ?_ ?_; rotate_left
 · intro w'; go_simp; with_reducible rfl
 rotate_left
 · simp only [pA_, i64_w]; rfl
 refine done_ (by kernel_rfl) ?_
 clear hHeld
 go_wp2_with fail
 rw [Exit.noGoto_ret]
 go_ret2
 exact ⟨rfl, (Below.refl _ _).drew⟩
structure Fed (sa : Nat → Addr) (w0 w w' : World) (g : Nat) (most : Int) (xs ys : List Int) (v : Value) (b : Nat) (fv v' : Value) (b' : Nat) : Prop where
 dec : DecV sa w0 w' g most (xs ++ ys) v' b'
 below : Below w0.heap.size w0 w'
 kept : Kept w w' (fun k => k = g ∨ some k = v.ownBlock)
 frames : Kd.N kFr 28 w' w.heap.size (fun k => w.heap.size ≤ k ∧ some k ≠ v'.ownBlock) fv (newX most xs ys)
 row : v'.ownBlock = v.ownBlock ∨ v'.ownBlock = none ∨ ∃ k, v'.ownBlock = some k ∧ w.heap.size ≤ k
 same : codeX most xs ≠ 0 → b' = b
theorem feed_dec' {sa : Nat → Addr} {w0 w : World} (hG : Good w0 sa) (hL : Lawful w0) (g : Nat) (most : Int) (xs : List Int) (v : Value) (b : Nat) (hb0 : Below w0.heap.size w0 w) (hD : DecV sa w0 w g most xs v b) (hg0 : w0.heap.size ≤ g) (hx : ∀ x ∈ xs, 0 ≤ x ∧ x ≤ 255) (A : Option Addr) (n c : Nat) (ys : List Int) (hB : Bs w A n c ys) (m1 : 1 ≤ most) (m2 : most ≤ 65536) (hsz : (restX most xs).length + n ≤ 1099511627776) :
    Calls Tryz.prog 42 #[.pointer (some ⟨g, 0, none⟩), .slice A n c] w fun e w' => ∃ fv v' b', e = .returned (.tuple #[fv, errX most (xs ++ ys) b']) ∧ Fed sa w0 w w' g most xs ys v b fv v' b' := by
 by_cases hc : codeX most xs = 0
 · obtain ⟨hg, hO⟩ := hD.live hc
   have hl := restX_len most xs
   refine (feed_any hG hL g most v (restX most xs) ys hb0 hg hg0 hO (fun x h => hx x (cut_sub most xs x h)) A n c hB m1 m2 (by omega)).mono ?_
   rintro e w' ⟨fv, ev, v', rfl, hF⟩
   obtain ⟨e1, e2, e3, e4⟩ := app_live (most := most) (ys := ys) hc
   have hN : newX most xs ys = (cut most (restX most xs ++ ys)).1 := by unfold newX; rw [if_pos hc]; rfl
   by_cases hc2 : codeX most (xs ++ ys) = 0
   · obtain ⟨rfl, h1, h2⟩ := hF.live (e3.symm.trans hc2)
     refine ⟨fv, v', 0, by unfold errX; rw [if_pos hc2], ⟨fun _ => ⟨h1, by rw [e2]; exact h2⟩, fun h => absurd hc2 h⟩, hF.below, hF.kept, by rw [hN]; exact hF.frames, hF.row, fun h => absurd hc h⟩
   · obtain ⟨b', rfl, h1, h2, h3, h4⟩ := hF.dead (fun h => hc2 (e3.trans h))
     refine ⟨fv, v', b', by unfold errX; rw [if_neg hc2], ⟨fun h => absurd h hc2, fun _ => ⟨h1, by rw [e3, e4]; exact h2, h4⟩⟩, hF.below, hF.kept, by rw [hN]; exact hF.frames, hF.row, fun h => absurd hc h⟩
 · obtain ⟨h1, h2, h3⟩ := hD.dead hc
   refine (feed_died g b (.slice A n c) (cell_blk h1 rfl)).mono ?_
   rintro e w' ⟨rfl, hb⟩
   have e0 := app_dead (ys := ys) hc
   have ec : codeX most (xs ++ ys) = codeX most xs := by unfold codeX; rw [e0]
   have es : stX most (xs ++ ys) = stX most xs := by unfold stX; rw [e0]
   refine ⟨.slice none 0 0, v, b, by unfold errX; rw [ec, if_neg hc], ⟨fun h => absurd (ec ▸ h) hc, fun _ => ⟨(hb.block _ hD.glt).trans h1, by rw [ec, es]; exact (hb.block _ (hD.blt hc)).trans h2, h3⟩⟩, belowT hb0 (hb.mono hb0.size |> fun h => hb), (Kept.refl w _).below hb, ?_, .inl rfl, fun _ => rfl⟩
   unfold newX
   rw [if_neg hc]
   exact Kd.N_nil _ _ _ _ _
theorem new_dec (sa : Nat → Addr) {w0 w : World} (most : Int) (m1 : 1 ≤ most) (m2 : most ≤ 65536) :
    Calls Tryz.prog 41 #[.int .i64 most] w fun e w' => e = .returned (.tuple #[.pointer (some ⟨w.heap.size, 0, none⟩), .nilIface]) ∧ DecV sa w0 w' w.heap.size most [] (.slice none 0 0) 0 ∧ Below w.heap.size w w' :=
 (new_yes most m1 m2).mono fun e w' ⟨he, hh, hb⟩ => ⟨he, ⟨fun _ => ⟨hh, by rw [restX, cut_short (by simp)]; exact ⟨rfl, .inl ⟨rfl, rfl⟩⟩⟩, fun h => absurd (by unfold codeX; rw [cut_short (by simp)]) h⟩, hb⟩
end Go.Proofs.YtidmgckmphcegaaGreatDoor
/-
 Plain: frames' own bytes, one behind the other, and what a decoder makes of them.
-/
namespace Go.Proofs.YtidmgckmphcegaaGreatDoor
open Go.Proofs.YtidmgckmphcegaaGreatDoor.Px
set_option linter.unusedVariables false
set_option linter.unusedSimpArgs false
theorem enc_D' {ys : List Int} (hx : ∀ x ∈ ys, 0 ≤ x ∧ x ≤ 255) (h : ¬ ys.length < 12) : enc (D0 ys) (D1 ys) (D2 ys) (D3 ys) (D4 ys) = ys.take 12 := by
 rcases ys with _ | ⟨y0, ys⟩
 · exact absurd (by simp) h
 rcases ys with _ | ⟨y1, ys⟩
 · exact absurd (by simp) h
 rcases ys with _ | ⟨y2, ys⟩
 · exact absurd (by simp) h
 rcases ys with _ | ⟨y3, ys⟩
 · exact absurd (by simp) h
 rcases ys with _ | ⟨y4, ys⟩
 · exact absurd (by simp) h
 rcases ys with _ | ⟨y5, ys⟩
 · exact absurd (by simp) h
 rcases ys with _ | ⟨y6, ys⟩
 · exact absurd (by simp) h
 rcases ys with _ | ⟨y7, ys⟩
 · exact absurd (by simp) h
 rcases ys with _ | ⟨y8, ys⟩
 · exact absurd (by simp) h
 rcases ys with _ | ⟨y9, ys⟩
 · exact absurd (by simp) h
 rcases ys with _ | ⟨y10, ys⟩
 · exact absurd (by simp) h
 rcases ys with _ | ⟨y11, ys⟩
 · exact absurd (by simp) h
 simp only [List.mem_cons, forall_eq_or_imp] at hx
 simp only [enc, D0, D1, D2, D3, D4, dFl, dSt, dLn, gd, if_neg h]
 simp
 omega
theorem enc_len (ver ty fl st ln : Int) : (enc ver ty fl st ln).length = 12 := rfl
def encF (p : Fr) : List Int := enc p.f0.f0 p.f0.f1 p.f0.f2 p.f0.f3 p.f0.f4 ++ p.f1
theorem encF_len (p : Fr) : (encF p).length = 12 + p.f1.length := by unfold encF; rw [List.length_append, enc_len]
structure FOk (most : Int) (p : Fr) : Prop where
 hd : HdIn p.f0.f0 p.f0.f1 p.f0.f2 p.f0.f3 p.f0.f4
 sz : (p.f1.length : Int) = szF p.f0.f1 p.f0.f4
 ok : chk p.f0.f0 p.f0.f1 p.f0.f2 p.f0.f3 p.f0.f4 most = 0
 byt : ∀ x ∈ p.f1, 0 ≤ x ∧ x ≤ 255
def flat (fs : List Fr) : List Int := fs.flatMap encF
theorem flat_cons (p : Fr) (fs : List Fr) : flat (p :: fs) = encF p ++ flat fs := by simp [flat]
theorem flat_app (a b : List Fr) : flat (a ++ b) = flat a ++ flat b := by simp [flat]
theorem flat_one (p : Fr) : flat [p] = encF p := by simp [flat]
theorem cut_all (most : Int) (xs : List Int) (hx : ∀ x ∈ xs, 0 ≤ x ∧ x ≤ 255) : (∀ p ∈ (cut most xs).1, FOk most p) ∧ ∃ tl, xs = flat (cut most xs).1 ++ tl ∧ ((cut most xs).2.2.1 = 0 → tl = (cut most xs).2.1) ∧ ((cut most xs).2.2.1 ≠ 0 → ¬ tl.length < 12 ∧ chkX most tl = (cut most xs).2.2.1 ∧ D3 tl = (cut most xs).2.2.2) := by
 induction hn : xs.length using Nat.strongRecOn generalizing xs with
 | _ n ih =>
   subst hn
   by_cases h12 : xs.length < 12
   · rw [cut_short h12]; exact ⟨(fun p hp => by cases hp), xs, by simp [flat], fun _ => rfl, fun h => absurd rfl h⟩
   · by_cases hc : chkX most xs = 0
     · by_cases hp : xs.length - 12 < szX xs
       · rw [cut_part h12 hc hp]; exact ⟨(fun p hp => by cases hp), xs, by simp [flat], fun _ => rfl, fun h => absurd rfl h⟩
       · rw [cut_go h12 hc hp]
         obtain ⟨h1, tl, h2, h3, h4⟩ := ih (xs.drop (12 + szX xs)).length (by simp; omega) (xs.drop (12 + szX xs)) (fun x h => hx x (List.mem_of_mem_drop h)) rfl
         have hI := D_in hx
         have hl : ((xs.drop 12).take (szX xs)).length = szX xs := by rw [List.length_take, List.length_drop]; omega
         refine ⟨fun p hp => ?_, tl, ?_, h3, h4⟩
         · rcases List.mem_cons.1 hp with rfl | hp
           · refine ⟨hI, ?_, hc, fun x h => hx x (List.mem_of_mem_drop (List.mem_of_mem_take h))⟩
             show (((xs.drop 12).take (szX xs)).length : Int) = szF (D1 xs) (D4 xs)
             rw [hl]
             have := hI.l0
             unfold szX szF
             split <;> omega
           · exact h1 p hp
         · show xs = flat (_ :: (cut most (xs.drop (12 + szX xs))).1) ++ tl
           rw [flat_cons, List.append_assoc, ← h2]
           unfold encF hdOf
           rw [enc_D' hx h12, List.append_assoc]
           have e1 : (xs.drop 12).take (szX xs) ++ xs.drop (12 + szX xs) = xs.drop 12 := by rw [← List.drop_drop, List.take_append_drop]
           rw [e1, List.take_append_drop]
     · rw [cut_bad h12 hc]; exact ⟨(fun p hp => by cases hp), xs, by simp [flat], fun h => absurd h hc, fun _ => ⟨h12, rfl, rfl⟩⟩
end Go.Proofs.YtidmgckmphcegaaGreatDoor
/-
 law 5's fixed.
-/
namespace Go.Proofs.YtidmgckmphcegaaGreatDoor
open Go.RowKit Go.Proofs.YtidmgckmphcegaaGreatDoorW.PrintWords Go.Proofs.YtidmgckmphcegaaGreatDoorW.PrintLast Go.Proofs.YtidmgckmphcegaaGreatDoor.Px
set_option linter.unusedVariables false
set_option linter.unusedSimpArgs false
def whyX (most : Int) (xs : List Int) : Nat := if codeX most xs = 0 then 0 else 1000 + codeX most xs
theorem DecV.ev {sa : Nat → Addr} {w0 w : World} {g b : Nat} {most : Int} {xs : List Int} {v : Value} (h : DecV sa w0 w g most xs v b) : EV sa w (whyX most xs) (stX most xs) (errX most xs b) := by
 unfold whyX errX
 by_cases e : codeX most xs = 0
 · rw [if_pos e, if_pos e]; exact .inl ⟨rfl, rfl⟩
 · rw [if_neg e, if_neg e]
   have hc := (cut_code most xs).resolve_left e
   have hc1 : 11 ≤ codeX most xs := hc.1
   have hc2 : codeX most xs ≤ 15 := hc.2
   refine .inr (.inr ⟨by omega, by omega, by omega, b, 0, rfl, cell_blk (h.dead e).2.1 rfl, ?_⟩)
   rw [show 1000 + codeX most xs - 1000 = codeX most xs by omega]
   exact cell_blk (h.dead e).2.1 rfl
end Go.Proofs.YtidmgckmphcegaaGreatDoor
