/-
 Words for TapOwn: rows that a call answers, as they lie; two taps in turns.
-/
import Derived.Test.YtidmgckmphcegaaGreatDoorTCanon
import Derived.Test.YtidmgckmphcegaaGreatDoorTRBs
import Derived.Test.YtidmgckmphcegaaGreatDoorML
import Derived.Test.YtidmgckmphcegaaGreatDoorCR
import Derived.Test.YtidmgckmphcegaaGreatDoorApart
namespace Go.Proofs.YtidmgckmphcegaaGreatDoor
open Go Go.RowKit Go.Proofs.YtidmgckmphcegaaGreatDoorW.PrintWords Go.Proofs.YtidmgckmphcegaaGreatDoorW.PrintLast Go.Proofs.YtidmgckmphcegaaGreatDoor.Px
set_option linter.unusedVariables false
set_option linter.unusedSimpArgs false
structure OB (w : World) (B : Nat) (A : Option Addr) (c : Nat) (xs : List Int) : Prop where
 bs : Bs w A xs.length c xs
 new : ∀ a, A = some a → B ≤ a.block
theorem OB.of_own {w : World} {B : Nat} {v : Value} {xs : List Int} (h : Own w B v xs) (hx : ∀ x ∈ xs, 0 ≤ x ∧ x ≤ 255) : ∃ A c, v = .slice A xs.length c ∧ OB w B A c xs := by
 obtain ⟨A, c, e, hq⟩ := Own.bs h hx
 refine ⟨A, c, e, hq, fun a ha => ?_⟩
 rcases h.2 with ⟨h1, _⟩ | ⟨g, cap, cur, h1, hb, _⟩
 · rw [h1] at e; injection e with e1 _ _; rw [ha] at e1; cases e1
 · rw [h1] at e
   injection e with e1 _ _
   rw [ha] at e1
   injection e1 with e1
   rw [← e1]
   exact hb
theorem OB.of_R {w : World} {B : Nat} {ok : Nat → Prop} {A : Option Addr} {c : Nat} {xs : List Int} (h : Kd.R (Kd.int .u8) 5 w B ok (.slice A xs.length c) xs) (hx : ∀ x ∈ xs, 0 ≤ x ∧ x ≤ 255) : OB w B A c xs := by
 refine ⟨R_bs h hx, fun a ha => ?_⟩
 obtain ⟨_, inner, ho, _⟩ := h
 rcases ho.2 with ⟨h1, _⟩ | ⟨g, cap, cur, h1, hb, _⟩
 · injection h1 with e1 _ _; rw [ha] at e1; cases e1
 · injection h1 with e1 _ _
   rw [ha] at e1
   injection e1 with e1
   rw [e1]
   exact hb
theorem Bs.blk {w w1 : World} {A : Option Addr} {n c : Nat} {xs : List Int} (h : Bs w A n c xs) (e : ∀ a, A = some a → 0 < n → w1.heap[a.block]? = w.heap[a.block]?) : Bs w1 A n c xs := by
 refine ⟨h.len, h.cap, h.max, h.byt, h.nil, fun hn => ?_⟩
 obtain ⟨b, o, e1, hr⟩ := h.rd hn
 refine ⟨b, o, e1, fun j hj => ?_⟩
 rw [World.cell?_of_block (a := ⟨b, o + j, none⟩) (e ⟨b, o, none⟩ e1 hn)]
 exact hr j hj
theorem OB.next {w w1 : World} {B : Nat} {A : Option Addr} {c : Nat} {xs : List Int} (h : OB w B A c xs) (hb : Below w.heap.size w w1) : OB w1 B A c xs := ⟨h.bs.next hb, h.new⟩
theorem CR.blk {W w1 : World} {b o n c : Nat} {f : Nat → Int} (h : CR W b o n c f) (e : w1.heap[b]? = W.heap[b]?) : CR w1 b o n c f :=
 ⟨h.le, h.max, fun j hj => (World.cell?_of_block (a := ⟨b, o + j, none⟩) e).trans (h.rd j hj), fun j hj => ⟨by rw [World.cell?_of_block (a := ⟨b, o + j, none⟩) e]; exact (h.there j hj).1, (World.frozen?_of_block (a := ⟨b, o + j, none⟩) e).trans (h.there j hj).2⟩⟩
def GR (B0 : Nat) (W : World) (v : Value) (n : Nat) (f : Nat → Int) (bb : Nat) : Prop :=
 (v = .slice none 0 0 ∧ n = 0) ∨ ∃ b o c, v = .slice (some ⟨b, o, none⟩) n c ∧ CR W b o n c f ∧ b < W.heap.size ∧ (b = bb ∧ o = 0 ∨ B0 ≤ b)
theorem GR.congr {B0 : Nat} {W : World} {v : Value} {n : Nat} {f g : Nat → Int} {bb : Nat} (h : GR B0 W v n f bb) (e : ∀ j, j < n → f j = g j) : GR B0 W v n g bb :=
 h.imp id fun ⟨b, o, c, h1, h2, h3, h4⟩ => ⟨b, o, c, h1, h2.congr e, h3, h4⟩
theorem one_bs (w : World) (y : Int) (h0 : 0 ≤ y) (h1 : y ≤ 255) : Bs (w.alloc (.cells #[.int .u8 y] 5)) (some ⟨w.heap.size, 0, none⟩) 1 1 [y] :=
 row_bs (base := w.heap.size) (own_new w w.heap.size [y] (Nat.le_refl _) (by simp)) (by intro x hx; rw [List.mem_singleton.1 hx]; exact ⟨h0, h1⟩) rfl (by omega)
theorem two_bs (w : World) : Bs (w.alloc (.cells #[.int .u8 170, .int .u8 187] 5)) (some ⟨w.heap.size, 0, none⟩) 2 2 [170, 187] :=
 row_bs (base := w.heap.size) (own_new w w.heap.size [170, 187] (Nat.le_refl _) (by simp)) (by simp) rfl (by omega)
theorem gr_append {W0 W : World} {ops : Array Oper} {rest : List Oper} {o : Oper} {a : Act} {Q : Exit → Act → World → Prop} (hgd : o.guard = none) (s x : Operand)
    (ho : o.op = .call { callee := .builtin .append, args := #[s, x], argTypes := #[26, 26] })
    (v : Value) (n lo bb : Nat) (f : Nat → Int) (y : Int) (hs : a.eval s = v) (hx : a.eval x = .slice (some ⟨W.heap.size, 0, none⟩) 1 1) (hG : GR W0.heap.size W v n f bb) (hS : Spr W0 W bb lo) (hlo : lo ≤ n) (hy : f n = y) (h0 : 0 ≤ y) (h1 : y ≤ 255) (hn : n ≤ 1000000000000)
    (h : ∀ v1 w1, GR W0.heap.size w1 v1 (n + 1) f bb → Spr W0 w1 bb lo → wpList Tryz.prog ops Q rest (a.put o.dst v1) w1) :
    wpList Tryz.prog ops Q (o :: rest) a (W.alloc (.cells #[.int .u8 y] 5)) := by
 rcases hG with ⟨rfl, rfl⟩ | ⟨b, o', c, rfl, hC, hb, hw⟩
 · refine wpList_append_bs hgd s x ho W.heap.size (.slice none 0 0) [] hs ⟨rfl, .inl ⟨rfl, rfl⟩⟩ (some ⟨W.heap.size, 0, none⟩) 1 1 [y] hx (one_bs W y h0 h1) (by simp) (by simp) ?_
   intro v' w' ho' hg _
   have hb' : Below W.heap.size W w' := ba_.grown hg (by simp) (fun k hk => by simp [Value.ownBlock] at hk)
   rw [List.nil_append] at ho'
   obtain ⟨g, c, e, g1, g2, g3⟩ := ho'.cr (by simp)
   refine h v' w' (.inr ⟨g, 0, c, e, g3.congr fun j hj => ?_, g2, .inr (by have := hS.size; omega)⟩) (hS.trans (Spr.of_below hb'))
   obtain rfl : j = 0 := by simp at hj; omega
   simpa using hy.symm
 · refine cr_append hgd s x ho b o' n c f y hs hx hC hb hy hn ?_
   intro b1 o1 c1 w1 k1 k2 k3 k4
   have hz := hS.size
   refine h _ w1 (.inr ⟨b1, o1, c1, rfl, k1, k3, ?_⟩) ?_
   · rcases k2 with ⟨e1, e2⟩ | e1
     · rw [e1, e2]; exact hw
     · exact .inr (by omega)
   · rcases hw with ⟨e1, e2⟩ | e1
     · subst e1 e2
       exact hS.trans (k4.mono (by omega))
     · exact hS.fresh k4 e1
def pfr (l : List UInt8) : Hd × List Int := match gparse l with | .ok x => x | .error _ => (⟨0, 0, 0, 0, 0⟩, [])
def afr (l : List UInt8) : List Int := match gasm l with | .ok x => x | .error _ => []
theorem pfr_byt (l : List UInt8) : ∀ x ∈ (pfr l).2, 0 ≤ x ∧ x ≤ 255 := by
 unfold pfr
 cases h : gparse l with
 | error _ => simp
 | ok x => obtain ⟨a, b⟩ := x; exact (gparse_ok h).2.1
theorem TapV.step {sa : Nat → Addr} {w0 w w1 : World} {g gd b : Nat} {most : Int} {xs : List Int} {v : Value} (h : TapV sa w0 w g gd most xs v b) (h1 : w1.heap[g]? = w.heap[g]?) (h2 : w1.heap[gd]? = w.heap[gd]?) (h3 : ∀ k, v.ownBlock = some k → w1.heap[k]? = w.heap[k]?) (h4 : codeX most xs ≠ 0 → w1.heap[b]? = w.heap[b]?) : TapV sa w0 w1 g gd most xs v b :=
 ⟨h1.trans h.box, h.dec.step h2 h3 h4, h.g0, h.gd0⟩
theorem TapV.gdt {sa : Nat → Addr} {w0 w : World} {g gd b : Nat} {most : Int} {xs : List Int} {v : Value} (h : TapV sa w0 w g gd most xs v b) : ∃ cs, w.heap[gd]? = some (.cells cs 141 (0, 0)) := by
 by_cases e : codeX most xs = 0
 · exact ⟨_, (h.dec.live e).1⟩
 · exact ⟨_, (h.dec.dead e).1⟩
theorem TapV.bt {sa : Nat → Addr} {w0 w : World} {g gd b : Nat} {most : Int} {xs : List Int} {v : Value} (h : TapV sa w0 w g gd most xs v b) (e : codeX most xs ≠ 0) : ∃ cs, w.heap[b]? = some (.cells cs 136 (0, 0)) := ⟨_, (h.dec.dead e).2.1⟩
theorem TapV.vt {sa : Nat → Addr} {w0 w : World} {g gd b : Nat} {most : Int} {xs : List Int} {v : Value} (h : TapV sa w0 w g gd most xs v b) (k : Nat) (hk : v.ownBlock = some k) : ∃ cs, w.heap[k]? = some (.cells cs 5 (0, 0)) := by
 by_cases e : codeX most xs = 0
 · exact own_typed (h.dec.live e).2 k hk
 · rw [(h.dec.dead e).2.2] at hk
   simp [Value.ownBlock] at hk
theorem TapV.gt {sa : Nat → Addr} {w0 w : World} {g gd b : Nat} {most : Int} {xs : List Int} {v : Value} (h : TapV sa w0 w g gd most xs v b) : ∃ cs, w.heap[g]? = some (.cells cs 119 (0, 0)) := ⟨_, h.box⟩
theorem ty_ne {w : World} {a b : Nat} {t u : TypeId} (h1 : ∃ cs, w.heap[a]? = some (.cells cs t (0, 0))) (h2 : ∃ cs, w.heap[b]? = some (.cells cs u (0, 0))) (h : t ≠ u) : a ≠ b := by
 obtain ⟨c1, e1⟩ := h1
 obtain ⟨c2, e2⟩ := h2
 intro e
 rw [e, e2] at e1
 injection e1 with e1
 injection e1 with _ e1 _
 exact h e1.symm
structure Two (sa : Nat → Addr) (w0 w : World) (most : Int) (xs ys : List Int) (g gd b : Nat) (v : Value) (g' gd' b' : Nat) (v' : Value) : Prop where
 t : TapV sa w0 w g gd most xs v b
 u : TapV sa w0 w g' gd' most ys v' b'
 ng : g ≠ g'
 nd : gd ≠ gd'
 nv : ∀ k, v.ownBlock = some k → v'.ownBlock ≠ some k
theorem Two.swap {sa : Nat → Addr} {w0 w : World} {most : Int} {xs ys : List Int} {g gd b : Nat} {v : Value} {g' gd' b' : Nat} {v' : Value} (h : Two sa w0 w most xs ys g gd b v g' gd' b' v') : Two sa w0 w most ys xs g' gd' b' v' g gd b v :=
 ⟨h.u, h.t, fun e => h.ng e.symm, fun e => h.nd e.symm, fun k h1 h2 => h.nv k h2 h1⟩
theorem Two.below {sa : Nat → Addr} {w0 w w1 : World} {most : Int} {xs ys : List Int} {g gd b : Nat} {v : Value} {g' gd' b' : Nat} {v' : Value} (h : Two sa w0 w most xs ys g gd b v g' gd' b' v') (hb : Below w.heap.size w w1) : Two sa w0 w1 most xs ys g gd b v g' gd' b' v' :=
 ⟨h.t.below hb, h.u.below hb, h.ng, h.nd, h.nv⟩
theorem TapV.vlt {sa : Nat → Addr} {w0 w : World} {g gd b : Nat} {most : Int} {xs : List Int} {v : Value} (h : TapV sa w0 w g gd most xs v b) (k : Nat) (hk : v.ownBlock = some k) : k < w.heap.size := by
 obtain ⟨cs, e⟩ := h.vt k hk
 exact (Array.getElem?_eq_some_iff.1 e).1
theorem TapV.gdlt {sa : Nat → Addr} {w0 w : World} {g gd b : Nat} {most : Int} {xs : List Int} {v : Value} (h : TapV sa w0 w g gd most xs v b) : gd < w.heap.size := by
 obtain ⟨cs, e⟩ := h.gdt
 exact (Array.getElem?_eq_some_iff.1 e).1
theorem TapV.blt {sa : Nat → Addr} {w0 w : World} {g gd b : Nat} {most : Int} {xs : List Int} {v : Value} (h : TapV sa w0 w g gd most xs v b) (hc : codeX most xs ≠ 0) : b < w.heap.size := by
 obtain ⟨cs, e⟩ := h.bt hc
 exact (Array.getElem?_eq_some_iff.1 e).1
theorem Two.fed {sa : Nat → Addr} {w0 w w1 : World} {most : Int} {xs ys zs : List Int} {g gd b b1 : Nat} {v v1 : Value} {g' gd' b' : Nat} {v' : Value} (h : Two sa w0 w most xs ys g gd b v g' gd' b' v') (hf : TFed sa w0 w w1 g gd most xs zs v b v1 b1) : Two sa w0 w1 most (xs ++ zs) ys g gd b1 v1 g' gd' b' v' := by
 have hk : ∀ k, k < w.heap.size → k ≠ g → k ≠ gd → v.ownBlock ≠ some k → w1.heap[k]? = w.heap[k]? := fun k hl h1 h2 h3 => hf.kept.2 k hl (by rintro (e | e | e); exact h1 e; exact h2 e; exact h3 e.symm)
 have n1 : ∀ k, v.ownBlock = some k → g' ≠ k := fun k hv => ty_ne h.u.gt (h.t.vt k hv) (by decide)
 have n2 : ∀ k, v.ownBlock = some k → gd' ≠ k := fun k hv => ty_ne h.u.gdt (h.t.vt k hv) (by decide)
 refine ⟨hf.tap, h.u.step (hk _ h.u.lt (fun e => h.ng e.symm) (ty_ne h.u.gt h.t.gdt (by decide)) (fun e => n1 _ e rfl)) (hk _ h.u.gdlt (ty_ne h.u.gdt h.t.gt (by decide)) (fun e => h.nd e.symm) (fun e => n2 _ e rfl)) (fun k hv => hk k (h.u.vlt k hv) (ty_ne (h.u.vt k hv) h.t.gt (by decide)) (ty_ne (h.u.vt k hv) h.t.gdt (by decide)) (fun e => h.nv k e hv)) (fun hc => hk _ (h.u.blt hc) (ty_ne (h.u.bt hc) h.t.gt (by decide)) (ty_ne (h.u.bt hc) h.t.gdt (by decide)) (fun e => ty_ne (h.u.bt hc) (h.t.vt _ e) (by decide) rfl)), h.ng, h.nd, fun k h1 h2 => ?_⟩
 rcases hf.row with e | e | ⟨k', e, hl⟩
 · exact h.nv k (e ▸ h1) h2
 · rw [e] at h1; cases h1
 · rw [e] at h1
   injection h1 with h1
   have := h.u.vlt k h2
   omega
theorem Two.spr {sa : Nat → Addr} {w0 w w1 : World} {most : Int} {xs ys : List Int} {g gd b bF lo : Nat} {v : Value} {g' gd' b' : Nat} {v' : Value} (h : Two sa w0 w most xs ys g gd b v g' gd' b' v') (hs : Spr w w1 bF lo) (hF : ∃ cs, w.heap[bF]? = some (.cells cs 5 (0, 0))) (h1 : v.ownBlock ≠ some bF) (h2 : v'.ownBlock ≠ some bF) : Two sa w0 w1 most xs ys g gd b v g' gd' b' v' := by
 have key : ∀ {z : List Int} {q qd c : Nat} {x : Value}, TapV sa w0 w q qd most z x c → x.ownBlock ≠ some bF → TapV sa w0 w1 q qd most z x c := fun hT hx =>
  hT.step (hs.block _ hT.lt (ty_ne hT.gt hF (by decide))) (hs.block _ hT.gdlt (ty_ne hT.gdt hF (by decide))) (fun k hk => hs.block k (hT.vlt k hk) (fun e => hx (by rw [← e]; exact hk))) (fun hc => hs.block _ (hT.blt hc) (ty_ne (hT.bt hc) hF (by decide)))
 exact ⟨key h.t h1, key h.u h2, h.ng, h.nd, h.nv⟩
end Go.Proofs.YtidmgckmphcegaaGreatDoor
