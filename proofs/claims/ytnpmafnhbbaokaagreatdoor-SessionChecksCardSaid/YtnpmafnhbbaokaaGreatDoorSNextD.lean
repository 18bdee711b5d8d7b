/-
  sched.Next: no ticket: the first stream's frame.
-/
import Derived.Test.YtnpmafnhbbaokaaGreatDoorSData
import Derived.Test.YtnpmafnhbbaokaaGreatDoorSLn0
namespace Go.Proofs.YtnpmafnhbbaokaaGreatDoor
open Go Go.RowKit
open Go.ChangeMaps (setBlock)
set_option linter.unusedVariables false
set_option linter.unusedSimpArgs false
/-- The method value s.data. -/
def dataV (n : Nat) : Value := .func (.func 37) #[pt (n + 2)] #[]
def rb1 (r o l cap n : Nat) : Array Value := #[.slice (some ⟨r, o, none⟩) l cap, .map (some (n + 12))]
theorem SG.ext {w w1 : World} {n s fb : Nat} {c : Cf} {mk : Int} {lane : Array Value} {lnm : Obj} {robin : Array Value} {rbm : Obj} {og : Int} {ouf : Array Value} {hv sp : Int} {ring : Array Value} (h : SG w n s c mk lane lnm robin rbm og ouf hv sp ring) (hc : Ch [fb] w w1) (h1 : n + 15 < fb) (h2 : s + 1 < fb) : SG w1 n s c mk lane lnm robin rbm og ouf hv sp ring :=
  ⟨hc.at_ h.ouf (by simp; omega), hc.at_ h.out (by simp; omega), hc.at_ h.box (by simp; omega), hc.at_ h.ids (by simp; omega), hc.at_ h.tmp (by simp; omega), hc.at_ h.tab (by simp; omega), hc.at_ h.lnm (by simp; omega), hc.at_ h.ln (by simp; omega), hc.at_ h.rbm (by simp; omega), hc.at_ h.rb (by simp; omega), hc.at_ h.sch (by simp; omega), hc.at_ h.rst (by simp; omega), hc.at_ h.str (by simp; omega), hc.at_ h.snd (by simp; omega), hc.at_ h.stg (by simp; omega), h.s0⟩
/-- What is left behind a Data frame. -/
def NxD (w w' : World) (c : Cf) (n s b h m j r k : Nat) (A : Option Addr) (mk og : Int) (ouf : Array Value) (es : Array MapEntry) (cl : Nat) (hv sp : Int) : Prop := ∃ r' o' l' cap' es',
  (r' = r ∨ w.heap.size < r') ∧ SG w' n s c mk (laneC (.slice A 0 k) (n + 10) 0) (.map es cl) (rb1 r' o' l' cap' n) (.map es' 1) og ouf (hv - j) (sp + j) (rgC b (h + j) (m - j)) ∧
  ((hv = 4 ∧ l' = 1 ∧ es' = #[⟨.int .u32 1, .int .i64 1, 0⟩] ∧ One w' 35 r' o' cap' (.int .u32 1)) ∨ (hv = 1 ∧ l' = 0 ∧ es' = #[]))
set_option maxRecDepth 100000 in
set_option maxHeartbeats 4000000 in
theorem snext_d {w : World} {c : Cf} {n s b h m j r o cap k : Nat} {A : Option Addr} {mk og : Int} {ouf : Array Value} {es : Array MapEntry} {cl : Nat} {hv sp : Int} {x : Addr} (hp : PopH h m j hv) (hfr : c.frm = 3) (hx : w.cell? ⟨3, 0, none⟩ = some (sv x)) (hgx : 3 < n)
    (hg : SG w n s c mk (laneC (.slice A 0 k) (n + 10) 0) (.map es cl) (rb1 r o 1 cap n) (.map #[⟨.int .u32 1, .int .i64 1, 0⟩] 1) og ouf hv sp (rgC b h m)) (hr : r ≠ 3) (ho : One w 35 r o cap (.int .u32 1)) (hb : w.heap[b]? = some (.cells ab8 5 (0, 0))) (s0 : 0 ≤ sp) (s1 : sp ≤ 1000000) :
    Calls Tryz.prog 36 #[pt (n + 14), dataV n] w fun e w' => ∃ g, e = .returned (.tuple #[hdA 0 0 1 j (.slice (some ⟨g, 0, none⟩) j j), .bool true]) ∧ w.heap.size ≤ g ∧ w'.heap[g]? = some (.cells (dv h j) 5 (0, 0)) ∧ Ch [n + 13, r, n + 12, s + 1, s - 2] w w' ∧ NxD w w' c n s b h m j r k A mk og ouf es cl hv sp := by
  obtain ⟨w0, hw0⟩ : ∃ w0, w0 = w.alloc (.cells fr0 89) := ⟨_, rfl⟩
  have hc0 : Ch [] w w0 := by rw [hw0]; exact (Ch.refl _ _).alloc _
  have hr0 : w0.heap[w.heap.size]? = some (.cells fr0 89 (0, 0)) := by rw [hw0]; exact alloc_is _ rfl
  have h0 := hg.step hc0
  have hs0 := hg.s0
  have hz0 : n + 15 < w.heap.size := blk_lt hg.rst
  have hzq : s + 1 < w.heap.size := blk_lt hg.stg
  have c0 : w0.cell? ⟨n + 14, 0, none⟩ = some (.pointer (some ⟨n + 11, 0, none⟩)) := cell_blk h0.sch rfl
  have HL := Lib.hid (lnext_0 h0.ln)
  have HW := Lib.hid hw0
  have H0 := Lib.hid (And.intro h0 (And.intro hc0 (And.intro hr0 (And.intro (ho.step hc0 (by simp)) (And.intro (hc0.at_ hb (by simp)) (hc0.cell_ hx (by simp)))))))
  have HP := Lib.hid hp
  clear hg ho hb hx hc0 hr0 h0 hw0 hp
  unfold fr0 at HW
  unfold pt at HL
  go_enter Tryz.func36, Tryz.ntmps36
  unfold pt
  go_upto_region 1 with fail
  rw [← HW.out]
  go_wp2_with fail
  refine HL.out.mono ?_
  rintro e w1 ⟨rfl, hb1⟩
  have HB1 := Lib.hid hb1
  clear hb1 c0
  unfold tk0
  go_upto_region 7 with fail
  obtain ⟨w2, hw2⟩ : ∃ w2, w2 = w1.alloc (.cells #[.int .i64 0, .int .u32 0, .int .u32 0] 79) := ⟨_, rfl⟩
  rw [← hw2]
  have hc2 : Ch [] w0 w2 := by rw [hw2]; exact (Ch.of_below HB1.out).alloc _
  obtain ⟨h0, hc0, hr0, ho0, hb0, hx0⟩ := H0.out
  have h2 := h0.step hc2
  have hr2 := hc2.at_ hr0 (by simp)
  have ho2 := ho0.step hc2 (by simp)
  have hb2 := hc2.at_ hb0 (by simp)
  have hx2 := hc2.cell_ hx0 (by simp)
  have HN := Lib.hid (rnext_1 h2.rb ho2)
  have c1 : w2.cell? ⟨n + 14, 1, none⟩ = some (.pointer (some ⟨n + 13, 0, none⟩)) := cell_blk h2.sch rfl
  have hdn : ∀ W, (binOp .eql 92 (dataV n) .nilFunc).run Tryz.prog W = .ok (.bool false) W := fun _ => by kernel_rfl
  have hge : ∀ W, (eqGuard .eql 92 (.tmp 36) (.const .nilFunc) (dataV n) .nilFunc).run Tryz.prog W = .ok () W := fun _ => by kernel_rfl
  have H2 := Lib.hid (And.intro h2 (And.intro hr2 (And.intro ho2 (And.intro hb2 (And.intro hx2 hc2)))))
  clear h0 hc0 hr0 ho0 hb0 hx0 h2 hr2 ho2 hb2 hx2 hw2 hc2 HL
  unfold pt at HN
  go_wp2_with fail
  refine wp_loop_rounds 1 ?_
  rw [rounds_succ]
  go_wp2_with fail
  refine HN.out.mono ?_
  rintro e w3 ⟨rfl, hc3, r', o', cap', hr', ho3, hrb3⟩
  have K3 := Lib.hid (And.intro hc3 (And.intro hr' (And.intro ho3 hrb3)))
  clear hc3 hr' ho3 hrb3 c1
  go_upto_region 12 with fail
  obtain ⟨h2, hr2, ho2, hb2, hx2, hc2⟩ := H2.out
  obtain ⟨hc3, hr', ho3, hrb3⟩ := K3.out
  obtain ⟨curr, hrr, _⟩ := ho2
  have hc3' : Ch [n + 13, r, n + 12] w2 w3 := hc3.mono (fun j hj => .inl (by simp at hj ⊢; omega))
  have h3 := h2.robin hrr hc3' hrb3 (hc3.at_ h2.rbm (by simp; exact Ne.symm (map_ne hrr h2.rbm)))
  have hb3 := hc3.at_ hb2 (by have k1 := type_ne hb2 h2.rb (by decide); have k2 := type_ne hb2 hrr (by decide); simp; omega)
  have hx3 := hc3.cell_ hx2 (by simp; omega)
  have hr3 := hc3.at_ hr2 (by have k1 := type_ne hr2 h2.rb (by decide); have k2 := type_ne hr2 hrr (by decide); simp; omega)
  have HD := Lib.hid (data_1 HP.out hfr hx3 hgx h3 hb3 s0 s1)
  have H3 := Lib.hid (And.intro h3 (And.intro hr3 (And.intro ho3 (And.intro hc3' hrr))))
  have HNX := Lib.hid (fun W (hW : Ch [] w3 W) => hW)
  clear h2 hr2 hb2 hx2 hc2 hc3 hr' ho3 hrb3 hrr hc3' h3 hb3 hx3 hr3 hge hdn
  unfold pt at HD
  unfold dataV pt
  go_wp2_with fail
  refine HD.out.mono ?_
  rintro e w4 ⟨g, rfl, hg4, hc4, hgg4, hq4, hd4⟩
  have K4 := Lib.hid (And.intro hg4 (And.intro hc4 (And.intro hgg4 (And.intro hq4 hd4))))
  clear hg4 hc4 hgg4 hq4 hd4 HD
  unfold hdA
  go_upto_region 13 with fail
  obtain ⟨w5, hw5⟩ : ∃ w5, w5 = w4.alloc (.cells #[.int .u8 0, .int .u8 0, .int .u16 0, .int .u32 1, .int .u32 j, .slice (some ⟨g, 0, none⟩) j j] 89) := ⟨_, rfl⟩
  rw [← hw5]
  obtain ⟨hg4, hc4, hgg4, hq4, hd4⟩ := K4.out
  obtain ⟨h3, hr3, ho3, hc3', hrr⟩ := H3.out
  have hc5 : Ch [] w4 w5 := by rw [hw5]; exact (Ch.refl _ _).alloc _
  obtain ⟨fb, hfb⟩ : ∃ fb, fb = w.heap.size := ⟨_, rfl⟩
  obtain ⟨tb, htb⟩ : ∃ tb, tb = w4.heap.size := ⟨_, rfl⟩
  have g5 : w5.heap[tb]? = some (.cells (fr6 0 0 1 j (.slice (some ⟨g, 0, none⟩) j j)) 89 (0, 0)) := by rw [hw5]; exact alloc_is _ htb.symm
  have h4 := h3.data hc4 hq4 hd4
  have h5 := h4.step hc5
  have ho5 := (ho3.step hc4 (by obtain ⟨cu, k1, _⟩ := ho3; have k2 := type_ne k1 h3.stg (by decide); have k3 := type_ne k1 h3.snd (by decide); simp; omega)).step hc5 (by simp)
  have hr5 := hc5.at_ (hc4.at_ hr3 (by have k2 := type_ne hr3 h3.stg (by decide); have k3 := type_ne hr3 h3.snd (by decide); simp; omega)) (by simp)
  rw [← hfb] at hr5 ⊢
  rw [← htb]
  have htb5 : tb < w5.heap.size := blk_lt g5
  have hfb4 := blk_lt hr3
  have hz34 := hc4.size
  have hne : fb ≠ tb := by omega
  obtain ⟨cu5, kk5, _⟩ := id ho5
  have HR5 := Lib.hid (And.intro kk5 h5.rb)
  have NE12 := Lib.hid (fun (b : Nat) (c : Array Value) (t : TypeId) (f : Nat × Nat) (hb : w5.heap[b]? = some (.cells c t f)) => map_ne hb h5.rbm)
  have HC5 := Lib.hid hc5
  have nfr : ∀ cu, w5.heap[r']? = some (.cells cu 35 (0, 0)) → fb ≠ r' ∧ tb ≠ r' := fun cu k1 => ⟨type_ne hr5 k1 (by decide), type_ne g5 k1 (by decide)⟩
  have nfq : fb ≠ n + 13 ∧ tb ≠ n + 13 := ⟨type_ne hr5 h5.rb (by decide), type_ne g5 h5.rb (by decide)⟩
  have nfm : fb ≠ n + 12 ∧ tb ≠ n + 12 := ⟨map_ne hr5 h5.rbm, map_ne g5 h5.rbm⟩
  clear hg4 hc4 hgg4 hq4 hd4 h3 hr3 ho3 hc3' hrr hw5 hc5 h4 htb hfb4 hz34
  have hpp := HP.out
  rcases hpp with ⟨rfl, rfl, rfl, rfl⟩ | ⟨rfl, rfl, rfl, rfl⟩
  · obtain ⟨w6, hw6⟩ : ∃ w6, w6 = w5 := ⟨_, rfl⟩
    have hc6 : Ch [r', n + 13, n + 12] w5 w6 := by rw [hw6]; exact Ch.refl _ _
    rw [← hw6]
    have h6 : SG w6 n s c mk (laneC (.slice A 0 k) (n + 10) 0) (.map es cl) (rb1 r' o' 1 cap' n) (.map #[⟨.int .u32 1, .int .i64 1, 0⟩] 1) og ouf (4 - (3 : Nat)) (sp + (3 : Nat)) (rgC b (0 + 3) (5 - 3)) ∧ One w6 35 r' o' cap' (.int .u32 1) := by rw [hw6]; exact ⟨h5, ho5⟩
    obtain ⟨cu, kk, _⟩ := id ho5
    have := nfr cu kk
    have K5 := Lib.hid (And.intro hr5 (And.intro g5 (And.intro hfb htb5)))
    clear h5 hw6 hr5 g5 hfb htb5
    go_upto_region 16 with fail
    obtain ⟨hr5, g5, hfb, htb5⟩ := K5.out
    have hr6 := hc6.at_ hr5 (by simp; omega)
    have g6 := hc6.at_ g5 (by simp; omega)
    have a0 : w6.cell? ⟨fb, 0, none⟩ = some (.int .u8 0) := cell_blk hr6 rfl
    have a1 : w6.cell? ⟨fb, 1, none⟩ = some (.int .u8 0) := cell_blk hr6 rfl
    have a2 : w6.cell? ⟨fb, 2, none⟩ = some (.int .u16 0) := cell_blk hr6 rfl
    have a3 : w6.cell? ⟨fb, 3, none⟩ = some (.int .u32 0) := cell_blk hr6 rfl
    have a4 : w6.cell? ⟨fb, 4, none⟩ = some (.int .u32 0) := cell_blk hr6 rfl
    have a5 : w6.cell? ⟨fb, 5, none⟩ = some (.slice none 0 0) := cell_blk hr6 rfl
    have af : ∀ j, w6.frozen? ⟨fb, j, none⟩ = false := fun j => free_blk hr6
    have b0 : w6.cell? ⟨tb, 0, none⟩ = some (.int .u8 0) := cell_blk g6 rfl
    have b1 : w6.cell? ⟨tb, 1, none⟩ = some (.int .u8 0) := cell_blk g6 rfl
    have b2 : w6.cell? ⟨tb, 2, none⟩ = some (.int .u16 0) := cell_blk g6 rfl
    have b3 : w6.cell? ⟨tb, 3, none⟩ = some (.int .u32 1) := cell_blk g6 rfl
    have b4 : w6.cell? ⟨tb, 4, none⟩ = some (.int .u32 3) := cell_blk g6 rfl
    have b5 : w6.cell? ⟨tb, 5, none⟩ = some (.slice (some ⟨g, 0, none⟩) 3 3) := cell_blk g6 rfl
    clear hr6 g6
    have K6 := Lib.hid (And.intro hc6 (And.intro h6 (And.intro hne (And.intro hfb (And.intro htb5 (And.intro hr5 g5))))))
    clear hc6 h6 hne hfb htb5 hr5 g5
    have hne' := K6.out.2.2.1
    go_wp2_with fail
    obtain ⟨hg4, hc4, hgg4, hq4, hd4⟩ := K4.out
    obtain ⟨h3, hr3, ho3, hc3', hrr⟩ := H3.out
    obtain ⟨h0, hc0, hr0, ho0, hb0, hx0⟩ := H0.out
    obtain ⟨h2, hr2, ho2, hb2, hx2, hc2⟩ := H2.out
    obtain ⟨hc3, hr', _, hrb3⟩ := K3.out
    obtain ⟨hc6, h6, hne, hfb, htb5, hr5, g5⟩ := K6.out
    have hS := setF_ch w6 fb 0 0 1 3 (.slice (some ⟨g, 0, none⟩) 3 3)
    have z0 := hc0.size
    have z2 := hc2.size
    have z3 := hc3.size
    have z4 := hc4.size
    have hgl := blk_lt hgg4
    have hlt0 := blk_lt hr0
    have hrlt := blk_lt hrr
    have hL : Ch [n + 13, r, n + 12, s + 1, s - 2] w w5 := ((((Ch.refl [n + 13, r, n + 12, s + 1, s - 2] w).trans hc0 (fun j hj => by cases hj)).trans hc2 (fun j hj => by cases hj)).trans hc3' (fun j hj => .inl (by simp at hj ⊢; omega))).trans hc4 (fun j hj => .inl (by simp at hj ⊢; omega)) |>.trans (HC5.out) (fun j hj => by cases hj)
    have hL6 := hL.trans hc6 (fun j hj => by simp at hj ⊢; omega)
    have hgne : g ≠ fb := by omega
    have h35 := HC5.out.at_ hgg4 (by simp)
    have hg6 := hc6.at_ h35 (by have q1 := type_ne h35 HR5.out.1 (by decide); have q2 := type_ne h35 HR5.out.2 (by decide); have q3 := NE12.out g _ _ _ h35; simp; omega)
    refine bodyPost_ret (v := .tuple #[hdA 0 0 1 3 (.slice (some ⟨g, 0, none⟩) 3 3), .bool true]) ?_ rfl ⟨g, rfl, by omega, hS.at_ hg6 (by simp; omega), hL6.trans hS (by simp; omega), r', o', _, cap', _, (by omega), h6.1.ext hS (by omega) (by omega), .inl ⟨rfl, rfl, rfl, h6.2.step hS (by simp; omega)⟩⟩
    simp [results, Tryz.results36, go_sem, a0, a1, a2, a3, a4, a5, hdA]
  · have hc : Calls Tryz.prog 69 _ _ _ := remove_1 h5.rb ho5 h5.rbm
    have HRM := Lib.hid hc
    have c1 : w5.cell? ⟨n + 14, 1, none⟩ = some (.pointer (some ⟨n + 13, 0, none⟩)) := cell_blk h5.sch rfl
    obtain ⟨cu, kk, _⟩ := id ho5
    have := nfr cu kk
    clear hc
    have H5 := Lib.hid (And.intro h5 kk)
    have K5 := Lib.hid (And.intro hr5 (And.intro g5 (And.intro hfb htb5)))
    clear h5 kk hr5 g5 hfb htb5
    unfold pt at HRM
    go_upto_region 14 with fail
    go_wp2_with fail
    refine HRM.out.mono ?_
    rintro e w6 ⟨rfl, hc6, hrb6, hm6⟩
    obtain ⟨h5, kk⟩ := H5.out
    have h6 := h5.robin kk (hc6.mono (fun j hj => .inl (by simp at hj ⊢; omega))) hrb6 hm6
    clear hrb6 hm6 h5 kk c1
    go_upto_region 16 with fail
    obtain ⟨hr5, g5, hfb, htb5⟩ := K5.out
    have hr6 := hc6.at_ hr5 (by simp; omega)
    have g6 := hc6.at_ g5 (by simp; omega)
    have a0 : w6.cell? ⟨fb, 0, none⟩ = some (.int .u8 0) := cell_blk hr6 rfl
    have a1 : w6.cell? ⟨fb, 1, none⟩ = some (.int .u8 0) := cell_blk hr6 rfl
    have a2 : w6.cell? ⟨fb, 2, none⟩ = some (.int .u16 0) := cell_blk hr6 rfl
    have a3 : w6.cell? ⟨fb, 3, none⟩ = some (.int .u32 0) := cell_blk hr6 rfl
    have a4 : w6.cell? ⟨fb, 4, none⟩ = some (.int .u32 0) := cell_blk hr6 rfl
    have a5 : w6.cell? ⟨fb, 5, none⟩ = some (.slice none 0 0) := cell_blk hr6 rfl
    have af : ∀ j, w6.frozen? ⟨fb, j, none⟩ = false := fun j => free_blk hr6
    have b0 : w6.cell? ⟨tb, 0, none⟩ = some (.int .u8 0) := cell_blk g6 rfl
    have b1 : w6.cell? ⟨tb, 1, none⟩ = some (.int .u8 0) := cell_blk g6 rfl
    have b2 : w6.cell? ⟨tb, 2, none⟩ = some (.int .u16 0) := cell_blk g6 rfl
    have b3 : w6.cell? ⟨tb, 3, none⟩ = some (.int .u32 1) := cell_blk g6 rfl
    have b4 : w6.cell? ⟨tb, 4, none⟩ = some (.int .u32 1) := cell_blk g6 rfl
    have b5 : w6.cell? ⟨tb, 5, none⟩ = some (.slice (some ⟨g, 0, none⟩) 1 1) := cell_blk g6 rfl
    clear hr6 g6
    have K6 := Lib.hid (And.intro hc6 (And.intro h6 (And.intro hne (And.intro hfb (And.intro htb5 (And.intro hr5 g5))))))
    clear hc6 h6 hne hfb htb5 hr5 g5
    have hne' := K6.out.2.2.1
    go_wp2_with fail
    obtain ⟨hg4, hc4, hgg4, hq4, hd4⟩ := K4.out
    obtain ⟨h3, hr3, ho3, hc3', hrr⟩ := H3.out
    obtain ⟨h0, hc0, hr0, ho0, hb0, hx0⟩ := H0.out
    obtain ⟨h2, hr2, ho2, hb2, hx2, hc2⟩ := H2.out
    obtain ⟨hc3, hr', _, hrb3⟩ := K3.out
    obtain ⟨hc6, h6, hne, hfb, htb5, hr5, g5⟩ := K6.out
    have hS := setF_ch w6 fb 0 0 1 1 (.slice (some ⟨g, 0, none⟩) 1 1)
    have z0 := hc0.size
    have z2 := hc2.size
    have z3 := hc3.size
    have z4 := hc4.size
    have hgl := blk_lt hgg4
    have hlt0 := blk_lt hr0
    have hrlt := blk_lt hrr
    have hL : Ch [n + 13, r, n + 12, s + 1, s - 2] w w5 := ((((Ch.refl [n + 13, r, n + 12, s + 1, s - 2] w).trans hc0 (fun j hj => by cases hj)).trans hc2 (fun j hj => by cases hj)).trans hc3' (fun j hj => .inl (by simp at hj ⊢; omega))).trans hc4 (fun j hj => .inl (by simp at hj ⊢; omega)) |>.trans (HC5.out) (fun j hj => by cases hj)
    have hL6 := hL.trans hc6 (fun j hj => by simp at hj ⊢; omega)
    have hgne : g ≠ fb := by omega
    have h35 := HC5.out.at_ hgg4 (by simp)
    have hg6 := hc6.at_ h35 (by have q1 := type_ne h35 HR5.out.1 (by decide); have q2 := type_ne h35 HR5.out.2 (by decide); have q3 := NE12.out g _ _ _ h35; simp; omega)
    refine bodyPost_ret (v := .tuple #[hdA 0 0 1 1 (.slice (some ⟨g, 0, none⟩) 1 1), .bool true]) ?_ rfl ⟨g, rfl, by omega, hS.at_ hg6 (by simp; omega), hL6.trans hS (by simp; omega), r', o', _, cap', _, (by omega), h6.ext hS (by omega) (by omega), .inr ⟨rfl, rfl, rfl⟩⟩
    simp [results, Tryz.results36, go_sem, a0, a1, a2, a3, a4, a5, hdA]
end Go.Proofs.YtnpmafnhbbaokaaGreatDoor
