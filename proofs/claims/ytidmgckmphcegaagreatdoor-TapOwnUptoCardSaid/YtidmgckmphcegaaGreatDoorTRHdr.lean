/-
 culvertref26's header.
-/
import Derived.Test.YtidmgckmphcegaaGreatDoorTRKind
import Derived.Test.YtidmgckmphcegaaGreatDoorMH
namespace Go.Proofs.YtidmgckmphcegaaGreatDoor
open Go Go.RowKit Go.Proofs.YtidmgckmphcegaaGreatDoorW.PrintWords Go.Proofs.YtidmgckmphcegaaGreatDoorW.PrintLast Go.Proofs.YtidmgckmphcegaaGreatDoorW.PrintMore Go.Proofs.YtidmgckmphcegaaGreatDoor.Px Go.Proofs.YtidmgckmphcegaaGreatDoor.PTapAssembles
set_option linter.unusedVariables false
set_option linter.unusedSimpArgs false
theorem RB.ver {w : World} {g : Nat} {A : Option Addr} {n c a : Nat} {v t f s l : Int} {bad : Bool} (h : RB w g A n c a v t f s l bad) (x : Int) : RB (w.setCell ⟨g, 2, none⟩ (.int .u8 x)) g A n c a x t f s l bad := by
 refine Eq.trans (set_blk (j := 2) (.int .u8 x) h) (congrArg (fun z => some (Obj.cells z 97 (0, 0))) ?_)
 apply Array.ext'; simp [rcs]
theorem RB.flg {w : World} {g : Nat} {A : Option Addr} {n c a : Nat} {v t f s l : Int} {bad : Bool} (h : RB w g A n c a v t f s l bad) (x : Int) : RB (w.setCell ⟨g, 4, none⟩ (.int .u16 x)) g A n c a v t x s l bad := by
 refine Eq.trans (set_blk (j := 4) (.int .u16 x) h) (congrArg (fun z => some (Obj.cells z 97 (0, 0))) ?_)
 apply Array.ext'; simp [rcs]
theorem RB.str {w : World} {g : Nat} {A : Option Addr} {n c a : Nat} {v t f s l : Int} {bad : Bool} (h : RB w g A n c a v t f s l bad) (x : Int) : RB (w.setCell ⟨g, 5, none⟩ (.int .u32 x)) g A n c a v t f x l bad := by
 refine Eq.trans (set_blk (j := 5) (.int .u32 x) h) (congrArg (fun z => some (Obj.cells z 97 (0, 0))) ?_)
 apply Array.ext'; simp [rcs]
theorem RB.lth {w : World} {g : Nat} {A : Option Addr} {n c a : Nat} {v t f s l : Int} {bad : Bool} (h : RB w g A n c a v t f s l bad) (x : Int) : RB (w.setCell ⟨g, 6, none⟩ (.int .u32 x)) g A n c a v t f s x bad := by
 refine Eq.trans (set_blk (j := 6) (.int .u32 x) h) (congrArg (fun z => some (Obj.cells z 97 (0, 0))) ?_)
 apply Array.ext'; simp [rcs]
theorem RB.bd {w : World} {g : Nat} {A : Option Addr} {n c a : Nat} {v t f s l : Int} {bad : Bool} (h : RB w g A n c a v t f s l bad) (x : Bool) : RB (w.setCell ⟨g, 7, none⟩ (.bool x)) g A n c a v t f s l x := by
 refine Eq.trans (set_blk (j := 7) (.bool x) h) (congrArg (fun z => some (Obj.cells z 97 (0, 0))) ?_)
 apply Array.ext'; simp [rcs]
structure HS (w wx : World) (A : Option Addr) (n c : Nat) (L ws : Wds) (a : Nat) (v t f s l : Int) (bad : Bool) : Prop where
 box : RB wx w.heap.size A n c a v t f s l bad
 res : RZ wx (w.heap.size + 1)
 bel : Below w.heap.size w wx
 le : a ≤ n
 ws : L.drop a = ws
theorem HS.keep {w wx wy : World} {A : Option Addr} {n c : Nat} {L ws : Wds} {a : Nat} {v t f s l : Int} {bad : Bool} (h : HS w wx A n c L ws a v t f s l bad) (hb : Below wx.heap.size wx wy) : HS w wy A n c L ws a v t f s l bad :=
 ⟨h.box.keep hb, h.res.keep hb, belowT h.bel hb, h.le, h.ws⟩
theorem HS.put {w wx : World} {A : Option Addr} {n c : Nat} {L ws : Wds} {a : Nat} {v t f s l : Int} {bad : Bool} (h : HS w wx A n c L ws a v t f s l bad) (a' : Nat) (v' t' f' s' l' : Int) (bad' : Bool) (hle : a' ≤ n) : HS w (putR wx w.heap.size A n c a' v' t' f' s' l' bad') A n c L (L.drop a') a' v' t' f' s' l' bad' :=
 ⟨putR_at h.box, (putR_other (by omega)).trans h.res, putR_below h.bel (Nat.le_refl _), hle, rfl⟩
theorem HS.set {w wx : World} {A : Option Addr} {n c : Nat} {L ws : Wds} {a : Nat} {v t f s l : Int} {bad : Bool} (h : HS w wx A n c L ws a v t f s l bad) {j : Nat} {x : Value} {v' t' f' s' l' : Int} {bad' : Bool} (hb : RB (wx.setCell ⟨w.heap.size, j, none⟩ x) w.heap.size A n c a v' t' f' s' l' bad') : HS w (wx.setCell ⟨w.heap.size, j, none⟩ x) A n c L ws a v' t' f' s' l' bad' :=
 ⟨hb, (set_other _ (by omega)).trans h.res, h.bel.setCell (Nat.le_refl _) _, h.le, h.ws⟩
def HSt (w wx : World) (A : Option Addr) (n c : Nat) (L ws : Wds) (v t f s l : Int) (bad : Bool) : Prop := ∃ a, HS w wx A n c L ws a v t f s l bad
theorem ropt_none {word : List UInt8} {lo hi : Int} {ws : Wds} {bad : Bool} (h : isW word ws = none) : ropt word lo hi ws bad = (0, ws, bad) := by unfold ropt; rw [h]
theorem ropt_some {word : List UInt8} {lo hi : Int} {ws r : Wds} {bad : Bool} (h : isW word ws = some r) : ropt word lo hi ws bad = rnext lo hi r bad := by unfold ropt; rw [h]
theorem cell_of_blk {w w' : World} {k j : Nat} (h : w'.heap[k]? = w.heap[k]?) : w'.cell? ⟨k, j, none⟩ = w.cell? ⟨k, j, none⟩ := by
 simp only [World.cell?]; rw [h]
theorem flags_none {k : Nat} {b : Wds} (h : isW (wFlag k) (flagsW k b).2 = none) : flagsW (k + 1) b = flagsW k b := by rw [flagsW, h]
theorem flags_some {k : Nat} {b r : Wds} (h : isW (wFlag k) (flagsW k b).2 = some r) : flagsW (k + 1) b = ((flagsW k b).1 + 2 ^ k, r) := by rw [flagsW, h]
def rmid (word : List UInt8) (ws : Wds) (bad : Bool) : Wds × Bool := match isW word ws with | none => (ws, true) | some r => (r, bad)
theorem rmid_none {word : List UInt8} {ws : Wds} {bad : Bool} (h : isW word ws = none) : rmid word ws bad = (ws, true) := by unfold rmid; rw [h]
theorem rmid_some {word : List UInt8} {ws r : Wds} {bad : Bool} (h : isW word ws = some r) : rmid word ws bad = (r, bad) := by unfold rmid; rw [h]
theorem rmust_mid (word : List UInt8) (lo hi : Int) (ws : Wds) (bad : Bool) : rmust word lo hi ws bad = rnext lo hi (rmid word ws bad).1 (rmid word ws bad).2 := by
 unfold rmust rmid
 cases isW word ws <;> rfl
theorem wrap_u16_64 (x : Int) : wrap64 (wrap64 x * 16) % 65536 = (x * 16) % 65536 := by unfold wrap64; omega
theorem fl_wrap (c x : Int) : IntKind.u16.wrap (c + IntKind.u16.wrap (x * 16)) = IntKind.u16.wrap (c + IntKind.u16.wrap (wrap64 (wrap64 x * 16))) := by
 show (c + (x * 16) % 65536) % 65536 = (c + (wrap64 (wrap64 x * 16)) % 65536) % 65536
 rw [wrap_u16_64]
theorem rhdr_is {ty : Nat} {L0 b2 c2 d2 e2 f2 : Wds} {bad b3 d3 e3 f3 : Bool} {b1 d1 e1 f1 : Int} {c1 : Nat} {d : Int × Wds × Bool} (h1 : b1 = IntKind.u8.wrap (ropt wVer 1 255 L0 bad).1) (h2 : b2 = (ropt wVer 1 255 L0 bad).2.1) (h3 : b3 = (ropt wVer 1 255 L0 bad).2.2) (hc1 : c1 = (flagsW 4 b2).1) (hc2 : c2 = (flagsW 4 b2).2) (hd : d = ropt wFlags 16 65535 c2 b3) (hd1 : d1 = IntKind.u16.wrap (c1 + IntKind.u16.wrap (d.1.tdiv 16 * 16))) (hd2 : d2 = d.2.1) (hd3 : d3 = (d.2.2 || ((isW wFlags c2).isSome && decide (d.1.tmod 16 ≠ 0))))
    (he : (e1, e2, e3) = (IntKind.u32.wrap (rmust wStream 0 4294967295 d2 d3).1, (rmust wStream 0 4294967295 d2 d3).2.1, (rmust wStream 0 4294967295 d2 d3).2.2)) (hf : (f1, f2, f3) = (IntKind.u32.wrap (rmust wLength 0 4294967295 e2 e3).1, (rmust wLength 0 4294967295 e2 e3).2.1, (rmust wLength 0 4294967295 e2 e3).2.2)) :
    rhdrW ty L0 bad = (⟨b1.toNat, ty, d1.toNat, e1.toNat, f1.toNat⟩, f2, f3) ∧ ((b1.toNat : Nat) : Int) = b1 ∧ ((d1.toNat : Nat) : Int) = d1 ∧ ((e1.toNat : Nat) : Int) = e1 ∧ ((f1.toNat : Nat) : Int) = f1 := by
 obtain ⟨e1', e2', e3'⟩ : e1 = _ ∧ e2 = _ ∧ e3 = _ := by simpa only [Prod.mk.injEq] using he
 obtain ⟨f1', f2', f3'⟩ : f1 = _ ∧ f2 = _ ∧ f3 = _ := by simpa only [Prod.mk.injEq] using hf
 have p1 : ∀ x : Int, (((IntKind.u8.wrap x).toNat : Nat) : Int) = IntKind.u8.wrap x := fun x => by
  have : IntKind.u8.wrap x = x % 256 := rfl
  rw [this]; omega
 have p2 : ∀ x : Int, (((IntKind.u16.wrap x).toNat : Nat) : Int) = IntKind.u16.wrap x := fun x => by
  have : IntKind.u16.wrap x = x % 65536 := rfl
  rw [this]; omega
 have p3 : ∀ x : Int, (((IntKind.u32.wrap x).toNat : Nat) : Int) = IntKind.u32.wrap x := fun x => by
  have : IntKind.u32.wrap x = x % 4294967296 := rfl
  rw [this]; omega
 clear he hf
 subst h2; subst h3; subst hc1; subst hc2; subst hd; subst hd2; subst hd3; subst e2'; subst e3'; subst f2'; subst f3'; subst h1; subst hd1; subst e1'; subst f1'
 exact ⟨rfl, p1 _, p2 _, p3 _, p3 _⟩
set_option maxRecDepth 100000 in
set_option maxHeartbeats 8000000 in
theorem rhdrR_any {A : Option Addr} {c : Nat} {ws : List ByteArray} {w : World} (hW : RdW w A c ws) (ai ty : Nat) (bad : Bool) (ha : ai ≤ ws.length) (hn : ws.length ≤ 140737488355328) (hsz : ∀ x ∈ ws, x.size ≤ 4611686018427387904) :
    Calls Tryz.prog 55 #[rdg A ws.length c ai 0 ty 0 0 0 bad] w fun e w' => ∃ a' : Nat, a' ≤ ws.length ∧ (lsw ws).drop a' = (rhdrW ty ((lsw ws).drop ai) bad).2.1 ∧ e = .returned (rdg A ws.length c a' (rhdrW ty ((lsw ws).drop ai) bad).1.ver ty (rhdrW ty ((lsw ws).drop ai) bad).1.fl (rhdrW ty ((lsw ws).drop ai) bad).1.st (rhdrW ty ((lsw ws).drop ai) bad).1.ln (rhdrW ty ((lsw ws).drop ai) bad).2.2) ∧ Below w.heap.size w w' := by
 obtain ⟨w1, hw1⟩ : ∃ w1, w1 = (w.alloc (.cells (rcs A ws.length c ai 0 ty 0 0 0 bad) 97)).alloc (.cells rz 97) := ⟨_, rfl⟩
 have hS1 : HS w w1 A ws.length c (lsw ws) ((lsw ws).drop ai) ai 0 ty 0 0 0 bad := ⟨by rw [hw1]; exact (blk_old _ (by simp)).trans (alloc_at _ _), by rw [hw1]; exact alloc_at2 _ _ _, by rw [hw1]; exact ba_.alloc (by simp) _, ha, rfl⟩
 unfold rcs rz at hw1
 unfold rdg
 have HS1 := Lib.hid hS1
 have HW1 := Lib.hid hw1
 have HW := Lib.hid hW
 have HSZ := Lib.hid hsz
 clear hW hsz hS1 hw1
 go_enter Tryz.func55, Tryz.ntmps55
 go_wp2_with fail
 rw [← HW1.out]
 refine (ris_any (HW.out.next HS1.out.bel) ⟨#[118, 101, 114, 115, 105, 111, 110]⟩ ai 0 ty 0 0 0 bad ha hn).mono ?_
 rintro e w2 ⟨a1, q, rfl, ha1, hI, hb2⟩
 have hS2 := HS1.out.keep hb2
 have hbox := hS2.box
 have x0 : w2.cell? ⟨w.heap.size, 0, none⟩ = some (.slice A ws.length c) := cell_blk hbox rfl
 have x1 : w2.cell? ⟨w.heap.size, 1, none⟩ = some (.int .i64 ai) := cell_blk hbox rfl
 have x2 : w2.cell? ⟨w.heap.size, 2, none⟩ = some (.int .u8 0) := cell_blk hbox rfl
 have x3 : w2.cell? ⟨w.heap.size, 3, none⟩ = some (.int .u8 ty) := cell_blk hbox rfl
 have x4 : w2.cell? ⟨w.heap.size, 4, none⟩ = some (.int .u16 0) := cell_blk hbox rfl
 have x5 : w2.cell? ⟨w.heap.size, 5, none⟩ = some (.int .u32 0) := cell_blk hbox rfl
 have x6 : w2.cell? ⟨w.heap.size, 6, none⟩ = some (.int .u32 0) := cell_blk hbox rfl
 have x7 : w2.cell? ⟨w.heap.size, 7, none⟩ = some (.bool bad) := cell_blk hbox rfl
 have xk : ∀ j, w2.frozen? ⟨w.heap.size, j, none⟩ = false := fun j => free_blk hbox
 obtain ⟨w3, hw3⟩ : ∃ w3, w3 = putR w2 w.heap.size A ws.length c a1 0 ty 0 0 0 bad := ⟨_, rfl⟩
 have HS3 := Lib.hid (show HS w w3 A ws.length c (lsw ws) ((lsw ws).drop a1) a1 0 ty 0 0 0 bad by rw [hw3]; exact hS2.put a1 0 ty 0 0 0 bad ha1)
 unfold putR at hw3
 unfold rdg
 clear hS2 hbox hb2 HS1 HW1
 go_upto_if 20 with fail
 rw [← hw3]
 clear hw3 x0 x1 x2 x3 x4 x5 x6 x7 xk
 go_cut [] (fun wx => Hid (HSt w wx A ws.length c (lsw ws) (ropt wVer 1 255 ((lsw ws).drop ai) bad).2.1 (IntKind.u8.wrap (ropt wVer 1 255 ((lsw ws).drop ai) bad).1) ty 0 0 0 (ropt wVer 1 255 ((lsw ws).drop ai) bad).2.2))
 case first =>
  cases q
  · obtain ⟨hno, rfl⟩ := isTo_f hI
    have HNO := Lib.hid hno
    clear hI hno
    go_wp2_with fail
    go_meet
    rw [show ropt wVer 1 255 ((lsw ws).drop a1) bad = _ from ropt_none HNO.out]
    exact Lib.hid ⟨a1, HS3.out⟩
  · have hyes := isTo_t hI
    have HYES := Lib.hid hyes
    clear hI hyes
    have hx3 := HS3.out.box
    have x0 : w3.cell? ⟨w.heap.size, 0, none⟩ = some (.slice A ws.length c) := cell_blk hx3 rfl
    have x1 : w3.cell? ⟨w.heap.size, 1, none⟩ = some (.int .i64 a1) := cell_blk hx3 rfl
    have x2 : w3.cell? ⟨w.heap.size, 2, none⟩ = some (.int .u8 0) := cell_blk hx3 rfl
    have x3 : w3.cell? ⟨w.heap.size, 3, none⟩ = some (.int .u8 ty) := cell_blk hx3 rfl
    have x4 : w3.cell? ⟨w.heap.size, 4, none⟩ = some (.int .u16 0) := cell_blk hx3 rfl
    have x5 : w3.cell? ⟨w.heap.size, 5, none⟩ = some (.int .u32 0) := cell_blk hx3 rfl
    have x6 : w3.cell? ⟨w.heap.size, 6, none⟩ = some (.int .u32 0) := cell_blk hx3 rfl
    have x7 : w3.cell? ⟨w.heap.size, 7, none⟩ = some (.bool bad) := cell_blk hx3 rfl
    have xk : ∀ j, w3.frozen? ⟨w.heap.size, j, none⟩ = false := fun j => free_blk hx3
    clear hx3
    go_wp2_with fail
    refine (rnext_any (HW.out.next HS3.out.bel) a1 0 ty 0 0 0 bad 1 255 ha1 hn HSZ.out).mono ?_
    rintro e w4 ⟨a4, m, bad4, rfl, ha4, hN, hb4⟩
    obtain ⟨w5, hw5⟩ : ∃ w5, w5 = w4.alloc (.cells (rcs A ws.length c a4 0 ty 0 0 0 bad4) 97) := ⟨_, rfl⟩
    have hS5 := HS3.out.keep (show Below w3.heap.size w3 w5 by rw [hw5]; exact hb4.alloc hb4.size _)
    have hy5 : RB w5 w4.heap.size A ws.length c a4 0 ty 0 0 0 bad4 := by rw [hw5]; exact alloc_at _ _
    have hx5 := hS5.box
    unfold rcs at hw5
    unfold rdg
    clear hb4 x0 x1 x2 x3 x4 x5 x6 x7 xk
    go_upto_region 4 with fail
    rw [← hw5]
    have x0 : w5.cell? ⟨w.heap.size, 0, none⟩ = some (.slice A ws.length c) := cell_blk hx5 rfl
    have x1 : w5.cell? ⟨w.heap.size, 1, none⟩ = some (.int .i64 a1) := cell_blk hx5 rfl
    have x2 : w5.cell? ⟨w.heap.size, 2, none⟩ = some (.int .u8 0) := cell_blk hx5 rfl
    have x3 : w5.cell? ⟨w.heap.size, 3, none⟩ = some (.int .u8 ty) := cell_blk hx5 rfl
    have x4 : w5.cell? ⟨w.heap.size, 4, none⟩ = some (.int .u16 0) := cell_blk hx5 rfl
    have x5 : w5.cell? ⟨w.heap.size, 5, none⟩ = some (.int .u32 0) := cell_blk hx5 rfl
    have x6 : w5.cell? ⟨w.heap.size, 6, none⟩ = some (.int .u32 0) := cell_blk hx5 rfl
    have x7 : w5.cell? ⟨w.heap.size, 7, none⟩ = some (.bool bad) := cell_blk hx5 rfl
    have xk : ∀ j, w5.frozen? ⟨w.heap.size, j, none⟩ = false := fun j => free_blk hx5
    have y0 : w5.cell? ⟨w4.heap.size, 0, none⟩ = some (.slice A ws.length c) := cell_blk hy5 rfl
    have y1 : w5.cell? ⟨w4.heap.size, 1, none⟩ = some (.int .i64 a4) := cell_blk hy5 rfl
    have y2 : w5.cell? ⟨w4.heap.size, 2, none⟩ = some (.int .u8 0) := cell_blk hy5 rfl
    have y3 : w5.cell? ⟨w4.heap.size, 3, none⟩ = some (.int .u8 ty) := cell_blk hy5 rfl
    have y4 : w5.cell? ⟨w4.heap.size, 4, none⟩ = some (.int .u16 0) := cell_blk hy5 rfl
    have y5 : w5.cell? ⟨w4.heap.size, 5, none⟩ = some (.int .u32 0) := cell_blk hy5 rfl
    have y6 : w5.cell? ⟨w4.heap.size, 6, none⟩ = some (.int .u32 0) := cell_blk hy5 rfl
    have y7 : w5.cell? ⟨w4.heap.size, 7, none⟩ = some (.bool bad4) := cell_blk hy5 rfl
    have yk : ∀ j, w5.frozen? ⟨w4.heap.size, j, none⟩ = false := fun j => free_blk hy5
    obtain ⟨w6, hw6⟩ : ∃ w6, w6 = putR w5 w.heap.size A ws.length c a4 0 ty 0 0 0 bad4 := ⟨_, rfl⟩
    have HS6 := Lib.hid (show HS w w6 A ws.length c (lsw ws) ((lsw ws).drop a4) a4 0 ty 0 0 0 bad4 by rw [hw6]; exact hS5.put a4 0 ty 0 0 0 bad4 ha4)
    unfold putR at hw6
    clear hw5 hS5 hy5 hx5
    go_upto_region 5 with fail
    rw [← hw6]
    clear hw6 x0 x1 x2 x3 x4 x5 x6 x7 xk y0 y1 y2 y3 y4 y5 y6 y7 yk
    have hx6 := HS6.out.box
    have x0 : w6.cell? ⟨w.heap.size, 0, none⟩ = some (.slice A ws.length c) := cell_blk hx6 rfl
    have x1 : w6.cell? ⟨w.heap.size, 1, none⟩ = some (.int .i64 a4) := cell_blk hx6 rfl
    have x2 : w6.cell? ⟨w.heap.size, 2, none⟩ = some (.int .u8 0) := cell_blk hx6 rfl
    have x3 : w6.cell? ⟨w.heap.size, 3, none⟩ = some (.int .u8 ty) := cell_blk hx6 rfl
    have x4 : w6.cell? ⟨w.heap.size, 4, none⟩ = some (.int .u16 0) := cell_blk hx6 rfl
    have x5 : w6.cell? ⟨w.heap.size, 5, none⟩ = some (.int .u32 0) := cell_blk hx6 rfl
    have x6 : w6.cell? ⟨w.heap.size, 6, none⟩ = some (.int .u32 0) := cell_blk hx6 rfl
    have x7 : w6.cell? ⟨w.heap.size, 7, none⟩ = some (.bool bad4) := cell_blk hx6 rfl
    have xk : ∀ j, w6.frozen? ⟨w.heap.size, j, none⟩ = false := fun j => free_blk hx6
    have HN := Lib.hid hN
    clear hN hx6
    go_wp2_with fail
    go_meet
    rw [show ropt wVer 1 255 ((lsw ws).drop ai) bad = _ from (ropt_some HYES.out).trans HN.out]
    exact Lib.hid ⟨a4, HS6.out.set (HS6.out.box.ver _)⟩
 case rest =>
 rename World => wb
 obtain ⟨ab, hSb⟩ := hcut.out
 obtain ⟨b1, hb1⟩ : ∃ b1, b1 = IntKind.u8.wrap (ropt wVer 1 255 ((lsw ws).drop ai) bad).1 := ⟨_, rfl⟩
 obtain ⟨b2, hb2⟩ : ∃ b2, b2 = (ropt wVer 1 255 ((lsw ws).drop ai) bad).2.1 := ⟨_, rfl⟩
 obtain ⟨b3, hb3⟩ : ∃ b3, b3 = (ropt wVer 1 255 ((lsw ws).drop ai) bad).2.2 := ⟨_, rfl⟩
 rw [← hb1, ← hb2, ← hb3] at hSb
 have HB1 := Lib.hid hb1
 have HB2 := Lib.hid hb2
 have HB3 := Lib.hid hb3
 have HSB := Lib.hid hSb
 clear hcut hb1 hb2 hb3 hI HS3 hSb
 go_wp2_with fail
 obtain ⟨wn, hwn⟩ : ∃ wn, wn = wb.alloc (.cells #[.string ⟨#[115, 121, 110]⟩, .string ⟨#[97, 99, 107]⟩, .string ⟨#[102, 105, 110]⟩, .string ⟨#[114, 115, 116]⟩] 9) := ⟨_, rfl⟩
 have hSn : HS w wn A ws.length c (lsw ws) b2 ab b1 ty 0 0 0 b3 := HSB.out.keep (by rw [hwn]; exact (Below.refl _ _).alloc (Nat.le_refl _) _)
 have hFn : FlAt wn wb.heap.size := by rw [hwn]; exact FlAt.new _
 rw [← hwn]
 have hwb : w.heap.size + 1 < wb.heap.size := (Array.getElem?_eq_some_iff.1 HSB.out.res).1
 have HSN := Lib.hid hSn
 have HFN := Lib.hid hFn
 clear hwn hSn hFn HSB
 go_loopw [7, 8] (fun bit i wr => ∃ k p : Nat, k ≤ 4 ∧ p = 2 ^ k ∧ bit = .int .i64 p ∧ i = .int .i64 k ∧ Hid (HSt w wr A ws.length c (lsw ws) (flagsW k b2).2 b1 ty (flagsW k b2).1 0 0 b3 ∧ FlAt wr wb.heap.size)) (fun _ i _ => 4 - (intOf i).toNat)
 case atStart => exact ⟨0, 1, by omega, rfl, rfl, rfl, Lib.hid ⟨⟨ab, HSN.out⟩, HFN.out⟩⟩
 case round =>
  obtain ⟨k, p, hk4, hp, rfl, rfl, HR⟩ := hrel
  obtain ⟨⟨a, hSr⟩, hFr⟩ := HR.out
  by_cases hlt : k < 4
  · have hlt' : (k : Int) < 4 := by omega
    have hp8 : p ≤ 8 := by
     rw [hp]
     have : k = 0 ∨ k = 1 ∨ k = 2 ∨ k = 3 := by omega
     rcases this with rfl | rfl | rfl | rfl <;> decide
    have ck : wr.cell? ⟨wb.heap.size, k, none⟩ = some (.string (flW k)) := hFr k hlt
    obtain ⟨f, hf⟩ : ∃ f, f = (flagsW k b2).1 := ⟨_, rfl⟩
    have hfp : f < p := by rw [hf, hp]; exact flagsW_lt b2 k
    rw [← hf] at hSr
    have hbox := hSr.box
    have hwz := (Array.getElem?_eq_some_iff.1 hSr.res).1
    have z0 : wr.cell? ⟨w.heap.size, 0, none⟩ = some (.slice A ws.length c) := cell_blk hbox rfl
    have z1 : wr.cell? ⟨w.heap.size, 1, none⟩ = some (.int .i64 a) := cell_blk hbox rfl
    have z2 : wr.cell? ⟨w.heap.size, 2, none⟩ = some (.int .u8 b1) := cell_blk hbox rfl
    have z3 : wr.cell? ⟨w.heap.size, 3, none⟩ = some (.int .u8 ty) := cell_blk hbox rfl
    have z4 : wr.cell? ⟨w.heap.size, 4, none⟩ = some (.int .u16 f) := cell_blk hbox rfl
    have z5 : wr.cell? ⟨w.heap.size, 5, none⟩ = some (.int .u32 0) := cell_blk hbox rfl
    have z6 : wr.cell? ⟨w.heap.size, 6, none⟩ = some (.int .u32 0) := cell_blk hbox rfl
    have z7 : wr.cell? ⟨w.heap.size, 7, none⟩ = some (.bool b3) := cell_blk hbox rfl
    have zk : ∀ j, wr.frozen? ⟨w.heap.size, j, none⟩ = false := fun j => free_blk hbox
    have z0' := fun o => cell?_alloc_old o z0
    have z1' := fun o => cell?_alloc_old o z1
    have z2' := fun o => cell?_alloc_old o z2
    have z3' := fun o => cell?_alloc_old o z3
    have z4' := fun o => cell?_alloc_old o z4
    have z5' := fun o => cell?_alloc_old o z5
    have z6' := fun o => cell?_alloc_old o z6
    have z7' := fun o => cell?_alloc_old o z7
    have ck' := fun o => cell?_alloc_old o ck
    have hcall : ∀ W, Below wr.heap.size wr W → Calls Tryz.prog 92 #[rdg A ws.length c a b1 ty f 0 0 b3, .string (flW k)] W fun e w' => ∃ (a' : Nat) (q : Bool), e = .returned (.tuple #[rdg A ws.length c a' b1 ty f 0 0 b3, .bool q]) ∧ a' ≤ ws.length ∧ IsTo (flW k).data.toList (lsw ws) a a' q ∧ Below W.heap.size W w' := fun W hW => ris_any (HW.out.next (belowT hSr.bel hW)) (flW k) a b1 ty f 0 0 b3 hSr.le hn
    unfold rdg at hcall
    have HCALL := Lib.hid hcall
    have HSR := Lib.hid hSr
    have HFR := Lib.hid hFr
    have HF := Lib.hid hf
    have HP := Lib.hid hp
    clear hcall hSr hFr hbox hf hp
    go_upto_region 11 with fail
    go_cut [9, 10] (fun n6 n7 wx => Hid (∃ (gx a' : Nat) (q : Bool), n6 = .pointer (some ⟨gx, 0, none⟩) ∧ n7 = .bool q ∧ RB wx gx A ws.length c a' b1 ty f 0 0 b3 ∧ a' ≤ ws.length ∧ IsTo (wFlag k) (lsw ws) a a' q ∧ Below wr.heap.size wr wx ∧ wr.heap.size ≤ gx))
    case first =>
     go_region_with (go_at_call 92; refine (HCALL.out _ (by first | exact (Below.refl _ _).drew | exact ba_.drew | trace_state)).mono ?_; rintro e w7 ⟨a', q, rfl, ha', hI, hb7⟩; rw [lsW_flagk] at hI; have HI := Lib.hid hI; have HB7 := Lib.hid hb7; clear hI hb7; try (have hx7 : RZ w7 wr.heap.size := keepB HB7.out (alloc_at wr _); have HX7 := Lib.hid hx7; have e0 : w7.cell? ⟨wr.heap.size, 0, none⟩ = some (.slice none 0 0) := cell_blk hx7 rfl; have e1 : w7.cell? ⟨wr.heap.size, 1, none⟩ = some (.int .i64 0) := cell_blk hx7 rfl; have e2 : w7.cell? ⟨wr.heap.size, 2, none⟩ = some (.int .u8 0) := cell_blk hx7 rfl; have e3 : w7.cell? ⟨wr.heap.size, 3, none⟩ = some (.int .u8 0) := cell_blk hx7 rfl; have e4 : w7.cell? ⟨wr.heap.size, 4, none⟩ = some (.int .u16 0) := cell_blk hx7 rfl; have e5 : w7.cell? ⟨wr.heap.size, 5, none⟩ = some (.int .u32 0) := cell_blk hx7 rfl; have e6 : w7.cell? ⟨wr.heap.size, 6, none⟩ = some (.int .u32 0) := cell_blk hx7 rfl; have e7 : w7.cell? ⟨wr.heap.size, 7, none⟩ = some (.bool false) := cell_blk hx7 rfl; have ek : ∀ i, w7.frozen? ⟨wr.heap.size, i, none⟩ = false := fun i => free_blk hx7; clear hx7))
     all_goals (go_wp2_with fail)
     all_goals go_meet
     all_goals first
      | (have hq : RB (putR w7 wr.heap.size A ws.length c a' b1 ty f 0 0 b3) wr.heap.size A ws.length c a' b1 ty f 0 0 b3 := putR_at HX7.out
         have hb : Below wr.heap.size wr (putR w7 wr.heap.size A ws.length c a' b1 ty f 0 0 b3) := putR_below (belowT (by first | exact ba_.drew | exact (Below.refl _ _).alloc (Nat.le_refl _) _) HB7.out) (Nat.le_refl _)
         unfold putR at hq hb
         exact Lib.hid ⟨_, a', q, rfl, rfl, hq, ha', HI.out, hb, Nat.le_refl _⟩)
      | (have hw7 : Below wr.heap.size wr w7 := belowT (by first | exact (Below.refl _ _).drew | exact Below.refl _ _) HB7.out
         have hq : RB (w7.alloc (.cells (rcs A ws.length c a' b1 ty f 0 0 b3) 97)) w7.heap.size A ws.length c a' b1 ty f 0 0 b3 := alloc_at _ _
         have hb := hw7.alloc hw7.size (.cells (rcs A ws.length c a' b1 ty f 0 0 b3) 97)
         unfold rcs at hq hb
         exact Lib.hid ⟨_, a', q, rfl, rfl, hq, ha', HI.out, hb, hw7.size⟩)
    case rest =>
     rename World => w7
     obtain ⟨gx, a', q, rfl, rfl, hgx, ha', hI, hbx, hgl⟩ := hcut.out
     have hS7 := HSR.out.keep hbx
     have hF7 : FlAt w7 wb.heap.size := HFR.out.next hbx
     have hx7 := hS7.box
     clear z0 z1 z2 z3 z4 z5 z6 z7 zk ck z0' z1' z2' z3' z4' z5' z6' z7' ck'
     have y0 : w7.cell? ⟨gx, 0, none⟩ = some (.slice A ws.length c) := cell_blk hgx rfl
     have y1 : w7.cell? ⟨gx, 1, none⟩ = some (.int .i64 a') := cell_blk hgx rfl
     have y2 : w7.cell? ⟨gx, 2, none⟩ = some (.int .u8 b1) := cell_blk hgx rfl
     have y3 : w7.cell? ⟨gx, 3, none⟩ = some (.int .u8 ty) := cell_blk hgx rfl
     have y4 : w7.cell? ⟨gx, 4, none⟩ = some (.int .u16 f) := cell_blk hgx rfl
     have y5 : w7.cell? ⟨gx, 5, none⟩ = some (.int .u32 0) := cell_blk hgx rfl
     have y6 : w7.cell? ⟨gx, 6, none⟩ = some (.int .u32 0) := cell_blk hgx rfl
     have y7 : w7.cell? ⟨gx, 7, none⟩ = some (.bool b3) := cell_blk hgx rfl
     have yk : ∀ j, w7.frozen? ⟨gx, j, none⟩ = false := fun j => free_blk hgx
     have x0 : w7.cell? ⟨w.heap.size, 0, none⟩ = some (.slice A ws.length c) := cell_blk hx7 rfl
     have x1 : w7.cell? ⟨w.heap.size, 1, none⟩ = some (.int .i64 a) := cell_blk hx7 rfl
     have x2 : w7.cell? ⟨w.heap.size, 2, none⟩ = some (.int .u8 b1) := cell_blk hx7 rfl
     have x3 : w7.cell? ⟨w.heap.size, 3, none⟩ = some (.int .u8 ty) := cell_blk hx7 rfl
     have x4 : w7.cell? ⟨w.heap.size, 4, none⟩ = some (.int .u16 f) := cell_blk hx7 rfl
     have x5 : w7.cell? ⟨w.heap.size, 5, none⟩ = some (.int .u32 0) := cell_blk hx7 rfl
     have x6 : w7.cell? ⟨w.heap.size, 6, none⟩ = some (.int .u32 0) := cell_blk hx7 rfl
     have x7 : w7.cell? ⟨w.heap.size, 7, none⟩ = some (.bool b3) := cell_blk hx7 rfl
     have xk : ∀ j, w7.frozen? ⟨w.heap.size, j, none⟩ = false := fun j => free_blk hx7
     obtain ⟨w8, hw8⟩ : ∃ w8, w8 = putR w7 w.heap.size A ws.length c a' b1 ty f 0 0 b3 := ⟨_, rfl⟩
     have hS8 : HS w w8 A ws.length c (lsw ws) ((lsw ws).drop a') a' b1 ty f 0 0 b3 := by rw [hw8]; exact hS7.put a' b1 ty f 0 0 b3 ha'
     have hng : wb.heap.size ≠ w.heap.size := by omega
     have hF8 : FlAt w8 wb.heap.size := fun j hj => by rw [hw8, cell_of_blk (putR_other hng)]; exact hF7 j hj
     unfold putR at hw8
     clear hcut hgx hbx hS7 hF7 hx7
     go_upto_region 13 with fail
     rw [← hw8]
     clear hw8 y0 y1 y2 y3 y4 y5 y6 y7 yk x0 x1 x2 x3 x4 x5 x6 x7 xk
     cases q
     · obtain ⟨hno, rfl⟩ := isTo_f hI
       have HNX := Lib.hid (show HSt w w8 A ws.length c (lsw ws) (flagsW (k + 1) b2).2 b1 ty (flagsW (k + 1) b2).1 0 0 b3 ∧ FlAt w8 wb.heap.size by
        rw [flags_none (by rw [← HSR.out.ws]; exact hno), ← HSR.out.ws, ← HF.out]
        exact ⟨⟨a', hS8⟩, hF8⟩)
       clear hI hno hS8 hF8
       go_wp2_with fail
       go_roundw
       case rel => exact ⟨k + 1, 2 * p, by omega, by rw [HP.out, Nat.pow_succ]; omega, by go_num, by go_num, HNX⟩
       case measure => simp [intOf]; omega
     · have hyes := isTo_t hI
       have hbx8 := hS8.box
       have x0 : w8.cell? ⟨w.heap.size, 0, none⟩ = some (.slice A ws.length c) := cell_blk hbx8 rfl
       have x1 : w8.cell? ⟨w.heap.size, 1, none⟩ = some (.int .i64 a') := cell_blk hbx8 rfl
       have x2 : w8.cell? ⟨w.heap.size, 2, none⟩ = some (.int .u8 b1) := cell_blk hbx8 rfl
       have x3 : w8.cell? ⟨w.heap.size, 3, none⟩ = some (.int .u8 ty) := cell_blk hbx8 rfl
       have x4 : w8.cell? ⟨w.heap.size, 4, none⟩ = some (.int .u16 f) := cell_blk hbx8 rfl
       have x5 : w8.cell? ⟨w.heap.size, 5, none⟩ = some (.int .u32 0) := cell_blk hbx8 rfl
       have x6 : w8.cell? ⟨w.heap.size, 6, none⟩ = some (.int .u32 0) := cell_blk hbx8 rfl
       have x7 : w8.cell? ⟨w.heap.size, 7, none⟩ = some (.bool b3) := cell_blk hbx8 rfl
       have xk : ∀ j, w8.frozen? ⟨w.heap.size, j, none⟩ = false := fun j => free_blk hbx8
       have hp16 : (p : Int) % 65536 = p := by omega
       have hf16 : ((f : Int) + p) % 65536 = ((f + p : Nat) : Int) := by omega
       have HNX := Lib.hid (show HSt w (w8.setCell ⟨w.heap.size, 4, none⟩ (.int .u16 ((f + p : Nat) : Int))) A ws.length c (lsw ws) (flagsW (k + 1) b2).2 b1 ty (flagsW (k + 1) b2).1 0 0 b3 ∧ FlAt (w8.setCell ⟨w.heap.size, 4, none⟩ (.int .u16 ((f + p : Nat) : Int))) wb.heap.size by
        rw [flags_some (by rw [← HSR.out.ws]; exact hyes), ← HF.out, ← HP.out]
        exact ⟨⟨a', hS8.set (hS8.box.flg _)⟩, fun j hj => by rw [cell_of_blk (set_other _ hng)]; exact hF8 j hj⟩)
       clear hI hyes hS8 hF8 hbx8
       go_wp2_with fail
       go_roundw
       case rel => exact ⟨k + 1, 2 * p, by omega, by rw [HP.out, Nat.pow_succ]; omega, by go_num, by go_num, HNX⟩
       case measure => simp [intOf]; omega
  · obtain rfl : k = 4 := by omega
    obtain ⟨c1, hc1⟩ : ∃ c1, c1 = (flagsW 4 b2).1 := ⟨_, rfl⟩
    obtain ⟨c2, hc2⟩ : ∃ c2, c2 = (flagsW 4 b2).2 := ⟨_, rfl⟩
    have hc16 : c1 < 16 := by rw [hc1]; exact flagsW_lt b2 4
    rw [← hc1, ← hc2] at hSr
    have HC1 := Lib.hid hc1
    have HC2 := Lib.hid hc2
    have hrw := hSr.ws
    have ha0 := hSr.le
    have hbox := hSr.box
    have HSR := Lib.hid hSr
    have x0 : wr.cell? ⟨w.heap.size, 0, none⟩ = some (.slice A ws.length c) := cell_blk hbox rfl
    have x1 : wr.cell? ⟨w.heap.size, 1, none⟩ = some (.int .i64 a) := cell_blk hbox rfl
    have x2 : wr.cell? ⟨w.heap.size, 2, none⟩ = some (.int .u8 b1) := cell_blk hbox rfl
    have x3 : wr.cell? ⟨w.heap.size, 3, none⟩ = some (.int .u8 ty) := cell_blk hbox rfl
    have x4 : wr.cell? ⟨w.heap.size, 4, none⟩ = some (.int .u16 c1) := cell_blk hbox rfl
    have x5 : wr.cell? ⟨w.heap.size, 5, none⟩ = some (.int .u32 0) := cell_blk hbox rfl
    have x6 : wr.cell? ⟨w.heap.size, 6, none⟩ = some (.int .u32 0) := cell_blk hbox rfl
    have x7 : wr.cell? ⟨w.heap.size, 7, none⟩ = some (.bool b3) := cell_blk hbox rfl
    have xk : ∀ j, wr.frozen? ⟨w.heap.size, j, none⟩ = false := fun j => free_blk hbox
    clear hSr hFr hbox hc1 hc2
    go_wp2_with fail
    refine (ris_any (HW.out.next HSR.out.bel) ⟨#[102, 108, 97, 103, 115]⟩ a b1 ty c1 0 0 b3 ha0 hn).mono ?_
    rintro e wq ⟨a1, q, rfl, ha1, hI, hb2⟩
    have hS2 := HSR.out.keep hb2
    have hbox := hS2.box
    clear x0 x1 x2 x3 x4 x5 x6 x7 xk
    have x0 : wq.cell? ⟨w.heap.size, 0, none⟩ = some (.slice A ws.length c) := cell_blk hbox rfl
    have x1 : wq.cell? ⟨w.heap.size, 1, none⟩ = some (.int .i64 a) := cell_blk hbox rfl
    have x2 : wq.cell? ⟨w.heap.size, 2, none⟩ = some (.int .u8 b1) := cell_blk hbox rfl
    have x3 : wq.cell? ⟨w.heap.size, 3, none⟩ = some (.int .u8 ty) := cell_blk hbox rfl
    have x4 : wq.cell? ⟨w.heap.size, 4, none⟩ = some (.int .u16 c1) := cell_blk hbox rfl
    have x5 : wq.cell? ⟨w.heap.size, 5, none⟩ = some (.int .u32 0) := cell_blk hbox rfl
    have x6 : wq.cell? ⟨w.heap.size, 6, none⟩ = some (.int .u32 0) := cell_blk hbox rfl
    have x7 : wq.cell? ⟨w.heap.size, 7, none⟩ = some (.bool b3) := cell_blk hbox rfl
    have xk : ∀ j, wq.frozen? ⟨w.heap.size, j, none⟩ = false := fun j => free_blk hbox
    obtain ⟨w3, hw3⟩ : ∃ w3, w3 = putR wq w.heap.size A ws.length c a1 b1 ty c1 0 0 b3 := ⟨_, rfl⟩
    have HS3 := Lib.hid (show HS w w3 A ws.length c (lsw ws) ((lsw ws).drop a1) a1 b1 ty c1 0 0 b3 by rw [hw3]; exact hS2.put a1 b1 ty c1 0 0 b3 ha1)
    unfold putR at hw3
    unfold rdg
    clear hS2 hbox hb2
    go_upto_if 64 with fail
    rw [← hw3]
    clear hw3 x0 x1 x2 x3 x4 x5 x6 x7 xk
    obtain ⟨d, hd⟩ : ∃ d, d = ropt wFlags 16 65535 c2 b3 := ⟨_, rfl⟩
    go_cut [] (fun wx => Hid (HSt w wx A ws.length c (lsw ws) d.2.1 b1 ty (IntKind.u16.wrap (c1 + IntKind.u16.wrap (d.1.tdiv 16 * 16))) 0 0 (d.2.2 || ((isW wFlags c2).isSome && decide (d.1.tmod 16 ≠ 0)))))
    case first =>
     cases q
     · obtain ⟨hno, rfl⟩ := isTo_f hI
       have HNO := Lib.hid (show isW wFlags c2 = none by rw [← hrw]; exact hno)
       have HD := Lib.hid (show d = (0, c2, b3) by rw [hd]; exact ropt_none HNO.out)
       clear hI hno hd
       go_wp2_with fail
       go_meet
       rw [HD.out, HNO.out]
       have e1 : IntKind.u16.wrap ((c1 : Int) + IntKind.u16.wrap ((0 : Int).tdiv 16 * 16)) = c1 := by
        show ((c1 : Int) + ((0 : Int).tdiv 16 * 16) % 65536) % 65536 = c1
        simp; omega
       rw [e1]
       have := HS3.out
       rw [hrw] at this
       exact Lib.hid ⟨a1, by simpa using this⟩
     · have hyes := isTo_t hI
       have HYES := Lib.hid (show isW wFlags c2 = some ((lsw ws).drop a1) by rw [← hrw]; exact hyes)
       clear hI hyes
       have hx3 := HS3.out.box
       have x0 : w3.cell? ⟨w.heap.size, 0, none⟩ = some (.slice A ws.length c) := cell_blk hx3 rfl
       have x1 : w3.cell? ⟨w.heap.size, 1, none⟩ = some (.int .i64 a1) := cell_blk hx3 rfl
       have x2 : w3.cell? ⟨w.heap.size, 2, none⟩ = some (.int .u8 b1) := cell_blk hx3 rfl
       have x3 : w3.cell? ⟨w.heap.size, 3, none⟩ = some (.int .u8 ty) := cell_blk hx3 rfl
       have x4 : w3.cell? ⟨w.heap.size, 4, none⟩ = some (.int .u16 c1) := cell_blk hx3 rfl
       have x5 : w3.cell? ⟨w.heap.size, 5, none⟩ = some (.int .u32 0) := cell_blk hx3 rfl
       have x6 : w3.cell? ⟨w.heap.size, 6, none⟩ = some (.int .u32 0) := cell_blk hx3 rfl
       have x7 : w3.cell? ⟨w.heap.size, 7, none⟩ = some (.bool b3) := cell_blk hx3 rfl
       have xk : ∀ j, w3.frozen? ⟨w.heap.size, j, none⟩ = false := fun j => free_blk hx3
       clear hx3
       go_wp2_with fail
       refine (rnext_any (HW.out.next HS3.out.bel) a1 b1 ty c1 0 0 b3 16 65535 ha1 hn HSZ.out).mono ?_
       rintro e w4 ⟨a4, m, bad4, rfl, ha4, hN, hb4⟩
       obtain ⟨w5, hw5⟩ : ∃ w5, w5 = w4.alloc (.cells (rcs A ws.length c a4 b1 ty c1 0 0 bad4) 97) := ⟨_, rfl⟩
       have hS5 := HS3.out.keep (show Below w3.heap.size w3 w5 by rw [hw5]; exact hb4.alloc hb4.size _)
       have hy5 : RB w5 w4.heap.size A ws.length c a4 b1 ty c1 0 0 bad4 := by rw [hw5]; exact alloc_at _ _
       have hx5 := hS5.box
       unfold rcs at hw5
       unfold rdg
       clear hb4 x0 x1 x2 x3 x4 x5 x6 x7 xk
       go_upto_region 19 with fail
       rw [← hw5]
       have x0 : w5.cell? ⟨w.heap.size, 0, none⟩ = some (.slice A ws.length c) := cell_blk hx5 rfl
       have x1 : w5.cell? ⟨w.heap.size, 1, none⟩ = some (.int .i64 a1) := cell_blk hx5 rfl
       have x2 : w5.cell? ⟨w.heap.size, 2, none⟩ = some (.int .u8 b1) := cell_blk hx5 rfl
       have x3 : w5.cell? ⟨w.heap.size, 3, none⟩ = some (.int .u8 ty) := cell_blk hx5 rfl
       have x4 : w5.cell? ⟨w.heap.size, 4, none⟩ = some (.int .u16 c1) := cell_blk hx5 rfl
       have x5 : w5.cell? ⟨w.heap.size, 5, none⟩ = some (.int .u32 0) := cell_blk hx5 rfl
       have x6 : w5.cell? ⟨w.heap.size, 6, none⟩ = some (.int .u32 0) := cell_blk hx5 rfl
       have x7 : w5.cell? ⟨w.heap.size, 7, none⟩ = some (.bool b3) := cell_blk hx5 rfl
       have xk : ∀ j, w5.frozen? ⟨w.heap.size, j, none⟩ = false := fun j => free_blk hx5
       have y0 : w5.cell? ⟨w4.heap.size, 0, none⟩ = some (.slice A ws.length c) := cell_blk hy5 rfl
       have y1 : w5.cell? ⟨w4.heap.size, 1, none⟩ = some (.int .i64 a4) := cell_blk hy5 rfl
       have y2 : w5.cell? ⟨w4.heap.size, 2, none⟩ = some (.int .u8 b1) := cell_blk hy5 rfl
       have y3 : w5.cell? ⟨w4.heap.size, 3, none⟩ = some (.int .u8 ty) := cell_blk hy5 rfl
       have y4 : w5.cell? ⟨w4.heap.size, 4, none⟩ = some (.int .u16 c1) := cell_blk hy5 rfl
       have y5 : w5.cell? ⟨w4.heap.size, 5, none⟩ = some (.int .u32 0) := cell_blk hy5 rfl
       have y6 : w5.cell? ⟨w4.heap.size, 6, none⟩ = some (.int .u32 0) := cell_blk hy5 rfl
       have y7 : w5.cell? ⟨w4.heap.size, 7, none⟩ = some (.bool bad4) := cell_blk hy5 rfl
       have yk : ∀ j, w5.frozen? ⟨w4.heap.size, j, none⟩ = false := fun j => free_blk hy5
       obtain ⟨w6, hw6⟩ : ∃ w6, w6 = putR w5 w.heap.size A ws.length c a4 b1 ty c1 0 0 bad4 := ⟨_, rfl⟩
       have HS6 := Lib.hid (show HS w w6 A ws.length c (lsw ws) ((lsw ws).drop a4) a4 b1 ty c1 0 0 bad4 by rw [hw6]; exact hS5.put a4 b1 ty c1 0 0 bad4 ha4)
       unfold putR at hw6
       clear hw5 hS5 hy5 hx5
       go_upto_region 20 with fail
       rw [← hw6]
       clear hw6 x0 x1 x2 x3 x4 x5 x6 x7 xk y0 y1 y2 y3 y4 y5 y6 y7 yk
       have hx6 := HS6.out.box
       have x0 : w6.cell? ⟨w.heap.size, 0, none⟩ = some (.slice A ws.length c) := cell_blk hx6 rfl
       have x1 : w6.cell? ⟨w.heap.size, 1, none⟩ = some (.int .i64 a4) := cell_blk hx6 rfl
       have x2 : w6.cell? ⟨w.heap.size, 2, none⟩ = some (.int .u8 b1) := cell_blk hx6 rfl
       have x3 : w6.cell? ⟨w.heap.size, 3, none⟩ = some (.int .u8 ty) := cell_blk hx6 rfl
       have x4 : w6.cell? ⟨w.heap.size, 4, none⟩ = some (.int .u16 c1) := cell_blk hx6 rfl
       have x5 : w6.cell? ⟨w.heap.size, 5, none⟩ = some (.int .u32 0) := cell_blk hx6 rfl
       have x6 : w6.cell? ⟨w.heap.size, 6, none⟩ = some (.int .u32 0) := cell_blk hx6 rfl
       have x7 : w6.cell? ⟨w.heap.size, 7, none⟩ = some (.bool bad4) := cell_blk hx6 rfl
       have xk : ∀ j, w6.frozen? ⟨w.heap.size, j, none⟩ = false := fun j => free_blk hx6
       have HD := Lib.hid (show d = (m, (lsw ws).drop a4, bad4) by rw [hd]; exact (ropt_some HYES.out).trans hN)
       clear hN hx6 hd
       by_cases hm : m.tmod 16 = 0
       · have hm1 : (m.tmod 16 == 0) = true := by rw [hm]; rfl
         go_wp2_with fail
         go_meet
         rw [HD.out, HYES.out]
         have e1 : (((isW wFlags c2).isSome && decide (m.tmod 16 ≠ 0)) : Bool) = false := by rw [hm]; simp
         have h := HS6.out.set (HS6.out.box.flg (IntKind.u16.wrap (c1 + IntKind.u16.wrap (m.tdiv 16 * 16))))
         have e2 := fl_wrap c1 (m.tdiv 16)
         rw [HYES.out] at e1
         refine Lib.hid ⟨a4, ?_⟩
         rw [e1, Bool.or_false]
         rw [e2] at h ⊢
         exact h
       · have hm1 : (m.tmod 16 == 0) = false := beq_false_of_ne hm
         go_wp2_with fail
         go_meet
         rw [HD.out, HYES.out]
         have e1 : (((isW wFlags c2).isSome && decide (m.tmod 16 ≠ 0)) : Bool) = true := by rw [HYES.out]; simp [hm]
         have h7 := HS6.out.set (HS6.out.box.bd true)
         have h := h7.set (h7.box.flg (IntKind.u16.wrap (c1 + IntKind.u16.wrap (m.tdiv 16 * 16))))
         have e2 := fl_wrap c1 (m.tdiv 16)
         rw [HYES.out] at e1
         refine Lib.hid ⟨a4, ?_⟩
         rw [e1, Bool.or_true]
         rw [e2] at h ⊢
         exact h
    case rest =>
    rename World => wd
    obtain ⟨ad, hSd⟩ := hcut.out
    obtain ⟨d1, hd1⟩ : ∃ d1, d1 = IntKind.u16.wrap (c1 + IntKind.u16.wrap (d.1.tdiv 16 * 16)) := ⟨_, rfl⟩
    obtain ⟨d2, hd2⟩ : ∃ d2, d2 = d.2.1 := ⟨_, rfl⟩
    obtain ⟨d3, hd3⟩ : ∃ d3, d3 = (d.2.2 || ((isW wFlags c2).isSome && decide (d.1.tmod 16 ≠ 0))) := ⟨_, rfl⟩
    rw [← hd1, ← hd2, ← hd3] at hSd
    have HD := Lib.hid hd
    have HD1 := Lib.hid hd1
    have HD2 := Lib.hid hd2
    have HD3 := Lib.hid hd3
    have HSD := Lib.hid hSd
    clear hcut hd hd1 hd2 hd3 hI HS3 hSd HSR hrw
    have hbox := HSD.out.box
    have ha0 := HSD.out.le
    have hrw := HSD.out.ws
    have x0 : wd.cell? ⟨w.heap.size, 0, none⟩ = some (.slice A ws.length c) := cell_blk hbox rfl
    have x1 : wd.cell? ⟨w.heap.size, 1, none⟩ = some (.int .i64 ad) := cell_blk hbox rfl
    have x2 : wd.cell? ⟨w.heap.size, 2, none⟩ = some (.int .u8 b1) := cell_blk hbox rfl
    have x3 : wd.cell? ⟨w.heap.size, 3, none⟩ = some (.int .u8 ty) := cell_blk hbox rfl
    have x4 : wd.cell? ⟨w.heap.size, 4, none⟩ = some (.int .u16 d1) := cell_blk hbox rfl
    have x5 : wd.cell? ⟨w.heap.size, 5, none⟩ = some (.int .u32 0) := cell_blk hbox rfl
    have x6 : wd.cell? ⟨w.heap.size, 6, none⟩ = some (.int .u32 0) := cell_blk hbox rfl
    have x7 : wd.cell? ⟨w.heap.size, 7, none⟩ = some (.bool d3) := cell_blk hbox rfl
    have xk : ∀ j, wd.frozen? ⟨w.heap.size, j, none⟩ = false := fun j => free_blk hbox
    clear hbox
    go_wp2_with fail
    refine (ris_any (HW.out.next HSD.out.bel) ⟨#[115, 116, 114, 101, 97, 109]⟩ ad b1 ty d1 0 0 d3 ha0 hn).mono ?_
    rintro e wq ⟨a1, q, rfl, ha1, hI, hb2⟩
    have hS2 := HSD.out.keep hb2
    have hbox := hS2.box
    clear x0 x1 x2 x3 x4 x5 x6 x7 xk
    have x0 : wq.cell? ⟨w.heap.size, 0, none⟩ = some (.slice A ws.length c) := cell_blk hbox rfl
    have x1 : wq.cell? ⟨w.heap.size, 1, none⟩ = some (.int .i64 ad) := cell_blk hbox rfl
    have x2 : wq.cell? ⟨w.heap.size, 2, none⟩ = some (.int .u8 b1) := cell_blk hbox rfl
    have x3 : wq.cell? ⟨w.heap.size, 3, none⟩ = some (.int .u8 ty) := cell_blk hbox rfl
    have x4 : wq.cell? ⟨w.heap.size, 4, none⟩ = some (.int .u16 d1) := cell_blk hbox rfl
    have x5 : wq.cell? ⟨w.heap.size, 5, none⟩ = some (.int .u32 0) := cell_blk hbox rfl
    have x6 : wq.cell? ⟨w.heap.size, 6, none⟩ = some (.int .u32 0) := cell_blk hbox rfl
    have x7 : wq.cell? ⟨w.heap.size, 7, none⟩ = some (.bool d3) := cell_blk hbox rfl
    have xk : ∀ j, wq.frozen? ⟨w.heap.size, j, none⟩ = false := fun j => free_blk hbox
    obtain ⟨w3, hw3⟩ : ∃ w3, w3 = putR wq w.heap.size A ws.length c a1 b1 ty d1 0 0 d3 := ⟨_, rfl⟩
    have HS3 := Lib.hid (show HS w w3 A ws.length c (lsw ws) ((lsw ws).drop a1) a1 b1 ty d1 0 0 d3 by rw [hw3]; exact hS2.put a1 b1 ty d1 0 0 d3 ha1)
    unfold putR at hw3
    unfold rdg
    clear hS2 hbox hb2
    go_upto_if 91 with fail
    rw [← hw3]
    clear hw3 x0 x1 x2 x3 x4 x5 x6 x7 xk
    go_cut [] (fun wx => Hid (HSt w wx A ws.length c (lsw ws) (rmid wStream d2 d3).1 b1 ty d1 0 0 (rmid wStream d2 d3).2))
    case first =>
     cases q
     · obtain ⟨hno, rfl⟩ := isTo_f hI
       have HNO := Lib.hid (show isW wStream d2 = none by rw [← hrw]; exact hno)
       have hbox := HS3.out.box
       have x0 : w3.cell? ⟨w.heap.size, 0, none⟩ = some (.slice A ws.length c) := cell_blk hbox rfl
       have x1 : w3.cell? ⟨w.heap.size, 1, none⟩ = some (.int .i64 a1) := cell_blk hbox rfl
       have x2 : w3.cell? ⟨w.heap.size, 2, none⟩ = some (.int .u8 b1) := cell_blk hbox rfl
       have x3 : w3.cell? ⟨w.heap.size, 3, none⟩ = some (.int .u8 ty) := cell_blk hbox rfl
       have x4 : w3.cell? ⟨w.heap.size, 4, none⟩ = some (.int .u16 d1) := cell_blk hbox rfl
       have x5 : w3.cell? ⟨w.heap.size, 5, none⟩ = some (.int .u32 0) := cell_blk hbox rfl
       have x6 : w3.cell? ⟨w.heap.size, 6, none⟩ = some (.int .u32 0) := cell_blk hbox rfl
       have x7 : w3.cell? ⟨w.heap.size, 7, none⟩ = some (.bool d3) := cell_blk hbox rfl
       have xk : ∀ j, w3.frozen? ⟨w.heap.size, j, none⟩ = false := fun j => free_blk hbox
       clear hI hno hbox
       go_wp2_with fail
       go_meet
       rw [rmid_none HNO.out]
       have h := HS3.out.set (HS3.out.box.bd true)
       rw [hrw] at h
       exact Lib.hid ⟨a1, h⟩
     · have HYES := Lib.hid (show isW wStream d2 = some ((lsw ws).drop a1) by rw [← hrw]; exact isTo_t hI)
       clear hI
       go_wp2_with fail
       go_meet
       rw [rmid_some HYES.out]
       exact Lib.hid ⟨a1, HS3.out⟩
    case rest =>
    clear HS3 hI hrw ha0
    rename World => wm
    obtain ⟨am, hSm⟩ := hcut.out
    obtain ⟨m2, hm2⟩ : ∃ m2, m2 = (rmid wStream d2 d3).1 := ⟨_, rfl⟩
    obtain ⟨m3, hm3⟩ : ∃ m3, m3 = (rmid wStream d2 d3).2 := ⟨_, rfl⟩
    rw [← hm2, ← hm3] at hSm
    have hrw := hSm.ws
    have ha0 := hSm.le
    have hbox := hSm.box
    have HSM := Lib.hid hSm
    have HM2 := Lib.hid hm2
    have HM3 := Lib.hid hm3
    have x0 : wm.cell? ⟨w.heap.size, 0, none⟩ = some (.slice A ws.length c) := cell_blk hbox rfl
    have x1 : wm.cell? ⟨w.heap.size, 1, none⟩ = some (.int .i64 am) := cell_blk hbox rfl
    have x2 : wm.cell? ⟨w.heap.size, 2, none⟩ = some (.int .u8 b1) := cell_blk hbox rfl
    have x3 : wm.cell? ⟨w.heap.size, 3, none⟩ = some (.int .u8 ty) := cell_blk hbox rfl
    have x4 : wm.cell? ⟨w.heap.size, 4, none⟩ = some (.int .u16 d1) := cell_blk hbox rfl
    have x5 : wm.cell? ⟨w.heap.size, 5, none⟩ = some (.int .u32 0) := cell_blk hbox rfl
    have x6 : wm.cell? ⟨w.heap.size, 6, none⟩ = some (.int .u32 0) := cell_blk hbox rfl
    have x7 : wm.cell? ⟨w.heap.size, 7, none⟩ = some (.bool m3) := cell_blk hbox rfl
    have xk : ∀ j, wm.frozen? ⟨w.heap.size, j, none⟩ = false := fun j => free_blk hbox
    clear hcut hSm hbox hm2 hm3
    go_wp2_with fail
    refine (rnext_any (HW.out.next HSM.out.bel) am b1 ty d1 0 0 m3 0 4294967295 ha0 hn HSZ.out).mono ?_
    rintro e w4 ⟨ae, m, e3, rfl, ha4, hN, hb4⟩
    have hS4 := HSM.out.keep hb4
    have hbox := hS4.box
    clear x0 x1 x2 x3 x4 x5 x6 x7 xk
    have x0 : w4.cell? ⟨w.heap.size, 0, none⟩ = some (.slice A ws.length c) := cell_blk hbox rfl
    have x1 : w4.cell? ⟨w.heap.size, 1, none⟩ = some (.int .i64 am) := cell_blk hbox rfl
    have x2 : w4.cell? ⟨w.heap.size, 2, none⟩ = some (.int .u8 b1) := cell_blk hbox rfl
    have x3 : w4.cell? ⟨w.heap.size, 3, none⟩ = some (.int .u8 ty) := cell_blk hbox rfl
    have x4 : w4.cell? ⟨w.heap.size, 4, none⟩ = some (.int .u16 d1) := cell_blk hbox rfl
    have x5 : w4.cell? ⟨w.heap.size, 5, none⟩ = some (.int .u32 0) := cell_blk hbox rfl
    have x6 : w4.cell? ⟨w.heap.size, 6, none⟩ = some (.int .u32 0) := cell_blk hbox rfl
    have x7 : w4.cell? ⟨w.heap.size, 7, none⟩ = some (.bool m3) := cell_blk hbox rfl
    have xk : ∀ j, w4.frozen? ⟨w.heap.size, j, none⟩ = false := fun j => free_blk hbox
    obtain ⟨w5, hw5⟩ : ∃ w5, w5 = putR w4 w.heap.size A ws.length c ae b1 ty d1 0 0 e3 := ⟨_, rfl⟩
    have hS5 : HS w w5 A ws.length c (lsw ws) ((lsw ws).drop ae) ae b1 ty d1 0 0 e3 := by rw [hw5]; exact hS4.put ae b1 ty d1 0 0 e3 ha4
    unfold putR at hw5
    unfold rdg
    clear hS4 hbox hb4
    go_upto_region 27 with fail
    rw [← hw5]
    clear hw5 x0 x1 x2 x3 x4 x5 x6 x7 xk
    have hbox := hS5.box
    have x0 : w5.cell? ⟨w.heap.size, 0, none⟩ = some (.slice A ws.length c) := cell_blk hbox rfl
    have x1 : w5.cell? ⟨w.heap.size, 1, none⟩ = some (.int .i64 ae) := cell_blk hbox rfl
    have x2 : w5.cell? ⟨w.heap.size, 2, none⟩ = some (.int .u8 b1) := cell_blk hbox rfl
    have x3 : w5.cell? ⟨w.heap.size, 3, none⟩ = some (.int .u8 ty) := cell_blk hbox rfl
    have x4 : w5.cell? ⟨w.heap.size, 4, none⟩ = some (.int .u16 d1) := cell_blk hbox rfl
    have x5 : w5.cell? ⟨w.heap.size, 5, none⟩ = some (.int .u32 0) := cell_blk hbox rfl
    have x6 : w5.cell? ⟨w.heap.size, 6, none⟩ = some (.int .u32 0) := cell_blk hbox rfl
    have x7 : w5.cell? ⟨w.heap.size, 7, none⟩ = some (.bool e3) := cell_blk hbox rfl
    have xk : ∀ j, w5.frozen? ⟨w.heap.size, j, none⟩ = false := fun j => free_blk hbox
    obtain ⟨e1, he1⟩ : ∃ e1, e1 = IntKind.u32.wrap m := ⟨_, rfl⟩
    obtain ⟨e2, he2⟩ : ∃ e2, e2 = (lsw ws).drop ae := ⟨_, rfl⟩
    have hq : m % 4294967296 = e1 := he1.symm
    have HEe := Lib.hid (show (e1, e2, e3) = (IntKind.u32.wrap (rmust wStream 0 4294967295 d2 d3).1, (rmust wStream 0 4294967295 d2 d3).2.1, (rmust wStream 0 4294967295 d2 d3).2.2) by
     rw [rmust_mid, ← HM2.out, ← HM3.out, ← hrw, hN, he1, he2])
    have h6 := hS5.set (hS5.box.str e1)
    rw [← he2] at h6
    obtain ⟨we, hwe⟩ : ∃ we, we = w5.setCell ⟨w.heap.size, 5, none⟩ (.int .u32 e1) := ⟨_, rfl⟩
    rw [← hwe] at h6
    have HSE := Lib.hid h6
    clear hN hrw hS5 hbox h6 he1 he2 ha0 ha4
    go_upto_region 28 with fail
    rw [← hwe]
    clear hwe hq x0 x1 x2 x3 x4 x5 x6 x7 xk
    have hbox := HSE.out.box
    have ha0 := HSE.out.le
    have hrw := HSE.out.ws
    have x0 : we.cell? ⟨w.heap.size, 0, none⟩ = some (.slice A ws.length c) := cell_blk hbox rfl
    have x1 : we.cell? ⟨w.heap.size, 1, none⟩ = some (.int .i64 ae) := cell_blk hbox rfl
    have x2 : we.cell? ⟨w.heap.size, 2, none⟩ = some (.int .u8 b1) := cell_blk hbox rfl
    have x3 : we.cell? ⟨w.heap.size, 3, none⟩ = some (.int .u8 ty) := cell_blk hbox rfl
    have x4 : we.cell? ⟨w.heap.size, 4, none⟩ = some (.int .u16 d1) := cell_blk hbox rfl
    have x5 : we.cell? ⟨w.heap.size, 5, none⟩ = some (.int .u32 e1) := cell_blk hbox rfl
    have x6 : we.cell? ⟨w.heap.size, 6, none⟩ = some (.int .u32 0) := cell_blk hbox rfl
    have x7 : we.cell? ⟨w.heap.size, 7, none⟩ = some (.bool e3) := cell_blk hbox rfl
    have xk : ∀ j, we.frozen? ⟨w.heap.size, j, none⟩ = false := fun j => free_blk hbox
    clear hbox
    go_wp2_with fail
    refine (ris_any (HW.out.next HSE.out.bel) ⟨#[108, 101, 110, 103, 116, 104]⟩ ae b1 ty d1 e1 0 e3 ha0 hn).mono ?_
    rintro e wq ⟨a1, q, rfl, ha1, hI, hb2⟩
    have hS2 := HSE.out.keep hb2
    have hbox := hS2.box
    clear x0 x1 x2 x3 x4 x5 x6 x7 xk
    have x0 : wq.cell? ⟨w.heap.size, 0, none⟩ = some (.slice A ws.length c) := cell_blk hbox rfl
    have x1 : wq.cell? ⟨w.heap.size, 1, none⟩ = some (.int .i64 ae) := cell_blk hbox rfl
    have x2 : wq.cell? ⟨w.heap.size, 2, none⟩ = some (.int .u8 b1) := cell_blk hbox rfl
    have x3 : wq.cell? ⟨w.heap.size, 3, none⟩ = some (.int .u8 ty) := cell_blk hbox rfl
    have x4 : wq.cell? ⟨w.heap.size, 4, none⟩ = some (.int .u16 d1) := cell_blk hbox rfl
    have x5 : wq.cell? ⟨w.heap.size, 5, none⟩ = some (.int .u32 e1) := cell_blk hbox rfl
    have x6 : wq.cell? ⟨w.heap.size, 6, none⟩ = some (.int .u32 0) := cell_blk hbox rfl
    have x7 : wq.cell? ⟨w.heap.size, 7, none⟩ = some (.bool e3) := cell_blk hbox rfl
    have xk : ∀ j, wq.frozen? ⟨w.heap.size, j, none⟩ = false := fun j => free_blk hbox
    obtain ⟨w3, hw3⟩ : ∃ w3, w3 = putR wq w.heap.size A ws.length c a1 b1 ty d1 e1 0 e3 := ⟨_, rfl⟩
    have HS3 := Lib.hid (show HS w w3 A ws.length c (lsw ws) ((lsw ws).drop a1) a1 b1 ty d1 e1 0 e3 by rw [hw3]; exact hS2.put a1 b1 ty d1 e1 0 e3 ha1)
    unfold putR at hw3
    unfold rdg
    clear hS2 hbox hb2
    go_upto_if 108 with fail
    rw [← hw3]
    clear hw3 x0 x1 x2 x3 x4 x5 x6 x7 xk
    go_cut [] (fun wx => Hid (HSt w wx A ws.length c (lsw ws) (rmid wLength e2 e3).1 b1 ty d1 e1 0 (rmid wLength e2 e3).2))
    case first =>
     cases q
     · obtain ⟨hno, rfl⟩ := isTo_f hI
       have HNO := Lib.hid (show isW wLength e2 = none by rw [← hrw]; exact hno)
       have hbox := HS3.out.box
       have x0 : w3.cell? ⟨w.heap.size, 0, none⟩ = some (.slice A ws.length c) := cell_blk hbox rfl
       have x1 : w3.cell? ⟨w.heap.size, 1, none⟩ = some (.int .i64 a1) := cell_blk hbox rfl
       have x2 : w3.cell? ⟨w.heap.size, 2, none⟩ = some (.int .u8 b1) := cell_blk hbox rfl
       have x3 : w3.cell? ⟨w.heap.size, 3, none⟩ = some (.int .u8 ty) := cell_blk hbox rfl
       have x4 : w3.cell? ⟨w.heap.size, 4, none⟩ = some (.int .u16 d1) := cell_blk hbox rfl
       have x5 : w3.cell? ⟨w.heap.size, 5, none⟩ = some (.int .u32 e1) := cell_blk hbox rfl
       have x6 : w3.cell? ⟨w.heap.size, 6, none⟩ = some (.int .u32 0) := cell_blk hbox rfl
       have x7 : w3.cell? ⟨w.heap.size, 7, none⟩ = some (.bool e3) := cell_blk hbox rfl
       have xk : ∀ j, w3.frozen? ⟨w.heap.size, j, none⟩ = false := fun j => free_blk hbox
       clear hI hno hbox
       go_wp2_with fail
       go_meet
       rw [rmid_none HNO.out]
       have h := HS3.out.set (HS3.out.box.bd true)
       rw [hrw] at h
       exact Lib.hid ⟨a1, h⟩
     · have HYES := Lib.hid (show isW wLength e2 = some ((lsw ws).drop a1) by rw [← hrw]; exact isTo_t hI)
       clear hI
       go_wp2_with fail
       go_meet
       rw [rmid_some HYES.out]
       exact Lib.hid ⟨a1, HS3.out⟩
    case rest =>
    clear HS3 hI hrw ha0
    rename World => wm
    obtain ⟨am, hSm⟩ := hcut.out
    obtain ⟨m2, hm2⟩ : ∃ m2, m2 = (rmid wLength e2 e3).1 := ⟨_, rfl⟩
    obtain ⟨m3, hm3⟩ : ∃ m3, m3 = (rmid wLength e2 e3).2 := ⟨_, rfl⟩
    rw [← hm2, ← hm3] at hSm
    have hrw := hSm.ws
    have ha0 := hSm.le
    have hbox := hSm.box
    have HSM := Lib.hid hSm
    have HM2 := Lib.hid hm2
    have HM3 := Lib.hid hm3
    have x0 : wm.cell? ⟨w.heap.size, 0, none⟩ = some (.slice A ws.length c) := cell_blk hbox rfl
    have x1 : wm.cell? ⟨w.heap.size, 1, none⟩ = some (.int .i64 am) := cell_blk hbox rfl
    have x2 : wm.cell? ⟨w.heap.size, 2, none⟩ = some (.int .u8 b1) := cell_blk hbox rfl
    have x3 : wm.cell? ⟨w.heap.size, 3, none⟩ = some (.int .u8 ty) := cell_blk hbox rfl
    have x4 : wm.cell? ⟨w.heap.size, 4, none⟩ = some (.int .u16 d1) := cell_blk hbox rfl
    have x5 : wm.cell? ⟨w.heap.size, 5, none⟩ = some (.int .u32 e1) := cell_blk hbox rfl
    have x6 : wm.cell? ⟨w.heap.size, 6, none⟩ = some (.int .u32 0) := cell_blk hbox rfl
    have x7 : wm.cell? ⟨w.heap.size, 7, none⟩ = some (.bool m3) := cell_blk hbox rfl
    have xk : ∀ j, wm.frozen? ⟨w.heap.size, j, none⟩ = false := fun j => free_blk hbox
    clear hcut hSm hbox hm2 hm3
    go_wp2_with fail
    refine (rnext_any (HW.out.next HSM.out.bel) am b1 ty d1 e1 0 m3 0 4294967295 ha0 hn HSZ.out).mono ?_
    rintro e w4 ⟨af, m, f3, rfl, ha4, hN, hb4⟩
    have hS4 := HSM.out.keep hb4
    have hbox := hS4.box
    clear x0 x1 x2 x3 x4 x5 x6 x7 xk
    have x0 : w4.cell? ⟨w.heap.size, 0, none⟩ = some (.slice A ws.length c) := cell_blk hbox rfl
    have x1 : w4.cell? ⟨w.heap.size, 1, none⟩ = some (.int .i64 am) := cell_blk hbox rfl
    have x2 : w4.cell? ⟨w.heap.size, 2, none⟩ = some (.int .u8 b1) := cell_blk hbox rfl
    have x3 : w4.cell? ⟨w.heap.size, 3, none⟩ = some (.int .u8 ty) := cell_blk hbox rfl
    have x4 : w4.cell? ⟨w.heap.size, 4, none⟩ = some (.int .u16 d1) := cell_blk hbox rfl
    have x5 : w4.cell? ⟨w.heap.size, 5, none⟩ = some (.int .u32 e1) := cell_blk hbox rfl
    have x6 : w4.cell? ⟨w.heap.size, 6, none⟩ = some (.int .u32 0) := cell_blk hbox rfl
    have x7 : w4.cell? ⟨w.heap.size, 7, none⟩ = some (.bool m3) := cell_blk hbox rfl
    have xk : ∀ j, w4.frozen? ⟨w.heap.size, j, none⟩ = false := fun j => free_blk hbox
    obtain ⟨w5, hw5⟩ : ∃ w5, w5 = putR w4 w.heap.size A ws.length c af b1 ty d1 e1 0 f3 := ⟨_, rfl⟩
    have hS5 : HS w w5 A ws.length c (lsw ws) ((lsw ws).drop af) af b1 ty d1 e1 0 f3 := by rw [hw5]; exact hS4.put af b1 ty d1 e1 0 f3 ha4
    unfold putR at hw5
    unfold rdg
    clear hS4 hbox hb4
    go_upto_region 32 with fail
    rw [← hw5]
    clear hw5 x0 x1 x2 x3 x4 x5 x6 x7 xk
    have hbox := hS5.box
    have x0 : w5.cell? ⟨w.heap.size, 0, none⟩ = some (.slice A ws.length c) := cell_blk hbox rfl
    have x1 : w5.cell? ⟨w.heap.size, 1, none⟩ = some (.int .i64 af) := cell_blk hbox rfl
    have x2 : w5.cell? ⟨w.heap.size, 2, none⟩ = some (.int .u8 b1) := cell_blk hbox rfl
    have x3 : w5.cell? ⟨w.heap.size, 3, none⟩ = some (.int .u8 ty) := cell_blk hbox rfl
    have x4 : w5.cell? ⟨w.heap.size, 4, none⟩ = some (.int .u16 d1) := cell_blk hbox rfl
    have x5 : w5.cell? ⟨w.heap.size, 5, none⟩ = some (.int .u32 e1) := cell_blk hbox rfl
    have x6 : w5.cell? ⟨w.heap.size, 6, none⟩ = some (.int .u32 0) := cell_blk hbox rfl
    have x7 : w5.cell? ⟨w.heap.size, 7, none⟩ = some (.bool f3) := cell_blk hbox rfl
    have xk : ∀ j, w5.frozen? ⟨w.heap.size, j, none⟩ = false := fun j => free_blk hbox
    obtain ⟨f1, hf1⟩ : ∃ f1, f1 = IntKind.u32.wrap m := ⟨_, rfl⟩
    obtain ⟨f2, hf2⟩ : ∃ f2, f2 = (lsw ws).drop af := ⟨_, rfl⟩
    have hq : m % 4294967296 = f1 := hf1.symm
    have HEf := Lib.hid (show (f1, f2, f3) = (IntKind.u32.wrap (rmust wLength 0 4294967295 e2 e3).1, (rmust wLength 0 4294967295 e2 e3).2.1, (rmust wLength 0 4294967295 e2 e3).2.2) by
     rw [rmust_mid, ← HM2.out, ← HM3.out, ← hrw, hN, hf1, hf2])
    have h6 := hS5.set (hS5.box.lth f1)
    rw [← hf2] at h6
    obtain ⟨wf, hwf⟩ : ∃ wf, wf = w5.setCell ⟨w.heap.size, 6, none⟩ (.int .u32 f1) := ⟨_, rfl⟩
    rw [← hwf] at h6
    have HSF := Lib.hid h6
    clear hN hrw hS5 hbox h6 hf1 hf2 ha0 ha4
    go_upto_region 33 with fail
    rw [← hwf]
    clear hwf hq x0 x1 x2 x3 x4 x5 x6 x7 xk
    have hbox := HSF.out.box
    have hres := HSF.out.res
    have x0 : wf.cell? ⟨w.heap.size, 0, none⟩ = some (.slice A ws.length c) := cell_blk hbox rfl
    have x1 : wf.cell? ⟨w.heap.size, 1, none⟩ = some (.int .i64 af) := cell_blk hbox rfl
    have x2 : wf.cell? ⟨w.heap.size, 2, none⟩ = some (.int .u8 b1) := cell_blk hbox rfl
    have x3 : wf.cell? ⟨w.heap.size, 3, none⟩ = some (.int .u8 ty) := cell_blk hbox rfl
    have x4 : wf.cell? ⟨w.heap.size, 4, none⟩ = some (.int .u16 d1) := cell_blk hbox rfl
    have x5 : wf.cell? ⟨w.heap.size, 5, none⟩ = some (.int .u32 e1) := cell_blk hbox rfl
    have x6 : wf.cell? ⟨w.heap.size, 6, none⟩ = some (.int .u32 f1) := cell_blk hbox rfl
    have x7 : wf.cell? ⟨w.heap.size, 7, none⟩ = some (.bool f3) := cell_blk hbox rfl
    have xk : ∀ j, wf.frozen? ⟨w.heap.size, j, none⟩ = false := fun j => free_blk hbox
    have r0 : wf.cell? ⟨(w.heap.size + 1), 0, none⟩ = some (.slice none 0 0) := cell_blk hres rfl
    have r1 : wf.cell? ⟨(w.heap.size + 1), 1, none⟩ = some (.int .i64 0) := cell_blk hres rfl
    have r2 : wf.cell? ⟨(w.heap.size + 1), 2, none⟩ = some (.int .u8 0) := cell_blk hres rfl
    have r3 : wf.cell? ⟨(w.heap.size + 1), 3, none⟩ = some (.int .u8 0) := cell_blk hres rfl
    have r4 : wf.cell? ⟨(w.heap.size + 1), 4, none⟩ = some (.int .u16 0) := cell_blk hres rfl
    have r5 : wf.cell? ⟨(w.heap.size + 1), 5, none⟩ = some (.int .u32 0) := cell_blk hres rfl
    have r6 : wf.cell? ⟨(w.heap.size + 1), 6, none⟩ = some (.int .u32 0) := cell_blk hres rfl
    have r7 : wf.cell? ⟨(w.heap.size + 1), 7, none⟩ = some (.bool false) := cell_blk hres rfl
    have rk : ∀ j, wf.frozen? ⟨(w.heap.size + 1), j, none⟩ = false := fun j => free_blk hres
    clear hbox hres
    obtain ⟨hH, k1, k2, k3, k4⟩ := rhdr_is (ty := ty) HB1.out HB2.out HB3.out HC1.out HC2.out HD.out HD1.out HD2.out HD3.out HEe.out HEf.out
    have HH := Lib.hid hH
    have HK := Lib.hid (And.intro k1 (And.intro k2 (And.intro k3 k4)))
    clear hH k1 k2 k3 k4
    go_wp2_with fail
    refine bodyPost_ret (v := .agg #[.slice A ws.length c, .int .i64 af, .int .u8 b1, .int .u8 ty, .int .u16 d1, .int .u32 e1, .int .u32 f1, .bool f3]) ?_ rfl ⟨af, HSF.out.le, ?_, ?_, ?_⟩
    · simp [results, Tryz.results55, go_sem, r0, r1, r2, r3, r4, r5, r6, r7]
    · rw [HH.out]; exact HSF.out.ws
    · rw [HH.out, HK.out.1, HK.out.2.1, HK.out.2.2.1, HK.out.2.2.2]
    · iterate 8 (with_reducible refine Below.setCell ?_ (by simp) _)
      exact HSF.out.bel
end Go.Proofs.YtidmgckmphcegaaGreatDoor
