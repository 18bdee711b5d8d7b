/-
 culvertref26's kind.
-/
import Derived.Test.YtidmgckmphcegaaGreatDoorTRWalk
namespace Go.Proofs.YtidmgckmphcegaaGreatDoor
open Go Go.RowKit Go.Proofs.YtidmgckmphcegaaGreatDoorW.PrintWords Go.Proofs.YtidmgckmphcegaaGreatDoorW.PrintLast Go.Proofs.YtidmgckmphcegaaGreatDoorW.PrintMore Go.Proofs.YtidmgckmphcegaaGreatDoor.Px Go.Proofs.YtidmgckmphcegaaGreatDoor.PTapAssembles
set_option linter.unusedVariables false
set_option linter.unusedSimpArgs false
def kw : Nat → ByteArray
 | 0 => ⟨#[100, 97, 116, 97]⟩
 | 1 => ⟨#[119, 105, 110, 100, 111, 119]⟩
 | 2 => ⟨#[112, 105, 110, 103]⟩
 | _ => ⟨#[97, 119, 97, 121]⟩
theorem kw_list (k : Nat) : (kw k).data.toList = wKind k := by
 match k with
 | 0 => rfl
 | 1 => rfl
 | 2 => rfl
 | _ + 3 => rfl
def KwAt (w : World) (g : Nat) : Prop := ∀ j, j < 4 → w.cell? ⟨g, j, none⟩ = some (.string (kw j))
theorem KwAt.new (w : World) : KwAt (w.alloc (.cells #[.string ⟨#[100, 97, 116, 97]⟩, .string ⟨#[119, 105, 110, 100, 111, 119]⟩, .string ⟨#[112, 105, 110, 103]⟩, .string ⟨#[97, 119, 97, 121]⟩] 9)) w.heap.size := by
 intro j hj
 refine cell_blk (alloc_at _ _) ?_
 match j, hj with
 | 0, _ => rfl
 | 1, _ => rfl
 | 2, _ => rfl
 | 3, _ => rfl
theorem KwAt.next {w w' : World} {g : Nat} (h : KwAt w g) (hb : Below w.heap.size w w') : KwAt w' g := fun j hj => keepA hb (h j hj)
def rcs (A : Option Addr) (n c a : Nat) (v t f s l : Int) (bad : Bool) : Array Value := #[.slice A n c, .int .i64 a, .int .u8 v, .int .u8 t, .int .u16 f, .int .u32 s, .int .u32 l, .bool bad]
def RB (w : World) (g : Nat) (A : Option Addr) (n c a : Nat) (v t f s l : Int) (bad : Bool) : Prop := w.heap[g]? = some (.cells (rcs A n c a v t f s l bad) 97 (0, 0))
theorem RB.keep {w w' : World} {g : Nat} {A : Option Addr} {n c a : Nat} {v t f s l : Int} {bad : Bool} (h : RB w g A n c a v t f s l bad) (hb : Below w.heap.size w w') : RB w' g A n c a v t f s l bad := keepB hb h
theorem RB.lt {w : World} {g : Nat} {A : Option Addr} {n c a : Nat} {v t f s l : Int} {bad : Bool} (h : RB w g A n c a v t f s l bad) : g < w.heap.size := (Array.getElem?_eq_some_iff.1 h).1
def rz : Array Value := #[.slice none 0 0, .int .i64 0, .int .u8 0, .int .u8 0, .int .u16 0, .int .u32 0, .int .u32 0, .bool false]
def RZ (w : World) (g : Nat) : Prop := w.heap[g]? = some (.cells rz 97 (0, 0))
theorem RZ.keep {w w' : World} {g : Nat} (h : RZ w g) (hb : Below w.heap.size w w') : RZ w' g := keepB hb h
def KindTo (A : Option Addr) (n c : Nat) (L : Wds) (a : Nat) (v t f s l : Int) (w : World) (e : Ending) (w' : World) : Prop :=
 Below w.heap.size w w' ∧ match rkindW (L.drop a) with
 | none => e = .returned (.tuple #[rdg A n c a v t f s l false, .bool false])
 | some (ty, ws', bad') => ∃ a' : Nat, a' ≤ n ∧ L.drop a' = ws' ∧ e = .returned (.tuple #[rdg A n c a' v ty f s l bad', .bool true])
theorem kind_at {L : Wds} {k : Nat} (hk : k < 4) (hno : ∀ j, j < k → isW (wKind j) L = none) {r : Wds} (h : isW (wKind k) L = some r) : rkindW L = some (k, r, false) := by
 unfold rkindW
 match k, hk with
 | 0, _ => rw [h]
 | 1, _ => rw [hno 0 (by omega), h]
 | 2, _ => rw [hno 0 (by omega), hno 1 (by omega), h]
 | 3, _ => rw [hno 0 (by omega), hno 1 (by omega), hno 2 (by omega), h]
theorem kind_type {L : Wds} (hno : ∀ j, j < 4 → isW (wKind j) L = none) {r : Wds} (h : isW wType L = some r) : rkindW L = some ((IntKind.u8.wrap (rnext 4 255 r false).1).toNat, (rnext 4 255 r false).2.1, (rnext 4 255 r false).2.2) := by
 unfold rkindW
 rw [hno 0 (by omega), hno 1 (by omega), hno 2 (by omega), hno 3 (by omega), h]
theorem kind_no {L : Wds} (hno : ∀ j, j < 4 → isW (wKind j) L = none) (h : isW wType L = none) : rkindW L = none := by
 unfold rkindW
 rw [hno 0 (by omega), hno 1 (by omega), hno 2 (by omega), hno 3 (by omega), h]
def putR (w : World) (g : Nat) (A : Option Addr) (n c a : Nat) (v t f s l : Int) (bad : Bool) : World := ((((((((w.setCell ⟨g, 0, none⟩ (.slice A n c)).setCell ⟨g, 1, none⟩ (.int .i64 a)).setCell ⟨g, 2, none⟩ (.int .u8 v)).setCell ⟨g, 3, none⟩ (.int .u8 t)).setCell ⟨g, 4, none⟩ (.int .u16 f)).setCell ⟨g, 5, none⟩ (.int .u32 s)).setCell ⟨g, 6, none⟩ (.int .u32 l)).setCell ⟨g, 7, none⟩ (.bool bad))
theorem putR_at {w : World} {g : Nat} {A : Option Addr} {n c a : Nat} {v t f s l : Int} {bad : Bool} {x0 x1 x2 x3 x4 x5 x6 x7 : Value} (h : w.heap[g]? = some (.cells #[x0, x1, x2, x3, x4, x5, x6, x7] 97 (0, 0))) : RB (putR w g A n c a v t f s l bad) g A n c a v t f s l bad := by
 have h0 := set_blk (j := 0) (.slice A n c) h
 have h1 := set_blk (j := 1) (.int .i64 a) h0
 have h2 := set_blk (j := 2) (.int .u8 v) h1
 have h3 := set_blk (j := 3) (.int .u8 t) h2
 have h4 := set_blk (j := 4) (.int .u16 f) h3
 have h5 := set_blk (j := 5) (.int .u32 s) h4
 have h6 := set_blk (j := 6) (.int .u32 l) h5
 have h7 := set_blk (j := 7) (.bool bad) h6
 refine Eq.trans h7 (congrArg (fun z => some (Obj.cells z 97 (0, 0))) ?_)
 apply Array.ext'
 simp [rcs]
theorem putR_other {w : World} {g k : Nat} {A : Option Addr} {n c a : Nat} {v t f s l : Int} {bad : Bool} (h : k ≠ g) : (putR w g A n c a v t f s l bad).heap[k]? = w.heap[k]? := by
 unfold putR
 rw [set_other _ h, set_other _ h, set_other _ h, set_other _ h, set_other _ h, set_other _ h, set_other _ h, set_other _ h]
theorem putR_below {b : Nat} {w w' : World} {g : Nat} {A : Option Addr} {n c a : Nat} {v t f s l : Int} {bad : Bool} (h : Below b w w') (hg : b ≤ g) : Below b w (putR w' g A n c a v t f s l bad) :=
 (((((((h.setCell hg _).setCell hg _).setCell hg _).setCell hg _).setCell hg _).setCell hg _).setCell hg _).setCell hg _
theorem isTo_t {word : List UInt8} {L : Wds} {a a' : Nat} (h : IsTo word L a a' true) : isW word (L.drop a) = some (L.drop a') := by
 unfold IsTo at h
 split at h
 · exact absurd h.1 (by decide)
 · rename_i r hr
   rw [hr, h.2]
theorem isTo_f {word : List UInt8} {L : Wds} {a a' : Nat} (h : IsTo word L a a' false) : isW word (L.drop a) = none ∧ a' = a := by
 unfold IsTo at h
 split at h
 · rename_i hr
   exact ⟨hr, h.2⟩
 · exact absurd h.1 (by decide)
set_option maxRecDepth 100000 in
set_option maxHeartbeats 4000000 in
theorem rkindR_any {A : Option Addr} {c : Nat} {ws : List ByteArray} {w : World} (hW : RdW w A c ws) (a : Nat) (v t f s l : Int) (ha : a ≤ ws.length) (hn : ws.length ≤ 140737488355328) (hsz : ∀ x ∈ ws, x.size ≤ 4611686018427387904) :
    Calls Tryz.prog 54 #[rdg A ws.length c a v t f s l false] w (KindTo A ws.length c (lsw ws) a v t f s l w) := by
 obtain ⟨w1, hw1⟩ : ∃ w1, w1 = (w.alloc (.cells (rcs A ws.length c a v t f s l false) 97)).alloc (.cells rz 97) := ⟨_, rfl⟩
 have hbox : RB w1 w.heap.size A ws.length c a v t f s l false := by rw [hw1]; exact (blk_old _ (by simp)).trans (alloc_at _ _)
 have hres : RZ w1 (w.heap.size + 1) := by rw [hw1]; exact alloc_at2 _ _ _
 have hb1 : Below w.heap.size w w1 := by rw [hw1]; exact ba_.alloc (by simp) _
 have hz1 : w1.heap.size = w.heap.size + 2 := by rw [hw1]; simp
 unfold rcs rz at hw1
 unfold rdg
 have HBOX := Lib.hid hbox
 have HRES := Lib.hid hres
 have HB1 := Lib.hid hb1
 have HW1 := Lib.hid hw1
 have HW := Lib.hid (hW.next hb1)
 have HSZ := Lib.hid hsz
 clear hW hsz hbox hres hb1 hw1
 go_enter Tryz.func54, Tryz.ntmps54
 go_wp2_with fail
 rw [← HW1.out]
 obtain ⟨w2, hw2⟩ : ∃ w2, w2 = w1.alloc (.cells #[.string ⟨#[100, 97, 116, 97]⟩, .string ⟨#[119, 105, 110, 100, 111, 119]⟩, .string ⟨#[112, 105, 110, 103]⟩, .string ⟨#[97, 119, 97, 121]⟩] 9) := ⟨_, rfl⟩
 have hb12 : Below w1.heap.size w1 w2 := by rw [hw2]; exact (Below.refl _ _).alloc (Nat.le_refl _) _
 have hkw : KwAt w2 (w.heap.size + 1 + 1) := by rw [hw2, show w.heap.size + 1 + 1 = w1.heap.size from hz1.symm]; exact KwAt.new w1
 rw [← hw2]
 have HB2 := Lib.hid (belowT HB1.out hb12)
 have HBOX2 := Lib.hid (HBOX.out.keep hb12)
 have HRES2 := Lib.hid (HRES.out.keep hb12)
 have HW2 := Lib.hid (HW.out.next hb12)
 have HKW2 := Lib.hid hkw
 clear hw2 hb12 hkw HB1 HBOX HRES HW HW1 hz1
 go_loopw [5] (fun i wr => ∃ k : Nat, k ≤ 4 ∧ i = .int .i64 k ∧ Hid (Below w2.heap.size w2 wr ∧ ∀ j, j < k → isW (wKind j) ((lsw ws).drop a) = none)) (fun i _ => 4 - (intOf i).toNat)
 case atStart => exact ⟨0, by omega, rfl, Lib.hid ⟨Below.refl _ _, fun j hj => absurd hj (by omega)⟩⟩
 case round =>
  obtain ⟨k, hk4, rfl, HR⟩ := hrel
  have hBr := HR.out.1
  have hboxr := HBOX2.out.keep hBr
  have hresr := HRES2.out.keep hBr
  have hwr := HW2.out.next hBr
  by_cases hlt : k < 4
  · have hlt' : (k : Int) < 4 := by omega
    have ck : wr.cell? ⟨w.heap.size + 1 + 1, k, none⟩ = some (.string (kw k)) := HKW2.out.next hBr k hlt
    have b0 : wr.cell? ⟨w.heap.size, 0, none⟩ = some (.slice A ws.length c) := cell_blk hboxr rfl
    have b1 : wr.cell? ⟨w.heap.size, 1, none⟩ = some (.int .i64 a) := cell_blk hboxr rfl
    have b2 : wr.cell? ⟨w.heap.size, 2, none⟩ = some (.int .u8 v) := cell_blk hboxr rfl
    have b3 : wr.cell? ⟨w.heap.size, 3, none⟩ = some (.int .u8 t) := cell_blk hboxr rfl
    have b4 : wr.cell? ⟨w.heap.size, 4, none⟩ = some (.int .u16 f) := cell_blk hboxr rfl
    have b5 : wr.cell? ⟨w.heap.size, 5, none⟩ = some (.int .u32 s) := cell_blk hboxr rfl
    have b6 : wr.cell? ⟨w.heap.size, 6, none⟩ = some (.int .u32 l) := cell_blk hboxr rfl
    have b7 : wr.cell? ⟨w.heap.size, 7, none⟩ = some (.bool false) := cell_blk hboxr rfl
    have bk : ∀ j, wr.frozen? ⟨w.heap.size, j, none⟩ = false := fun j => free_blk hboxr
    have b0' := fun o => cell?_alloc_old o b0
    have b1' := fun o => cell?_alloc_old o b1
    have b2' := fun o => cell?_alloc_old o b2
    have b3' := fun o => cell?_alloc_old o b3
    have b4' := fun o => cell?_alloc_old o b4
    have b5' := fun o => cell?_alloc_old o b5
    have b6' := fun o => cell?_alloc_old o b6
    have b7' := fun o => cell?_alloc_old o b7
    have ck' := fun o => cell?_alloc_old o ck
    have hbl : w.heap.size + 1 < wr.heap.size := (Array.getElem?_eq_some_iff.1 hresr).1
    have hcall : ∀ W, Below wr.heap.size wr W → Calls Tryz.prog 92 #[rdg A ws.length c a v t f s l false, .string (kw k)] W fun e w' => ∃ (a' : Nat) (q : Bool), e = .returned (.tuple #[rdg A ws.length c a' v t f s l false, .bool q]) ∧ a' ≤ ws.length ∧ IsTo (kw k).data.toList (lsw ws) a a' q ∧ Below W.heap.size W w' := fun W hW => ris_any (hwr.next hW) (kw k) a v t f s l false ha hn
    unfold rdg at hcall
    have HCALL := Lib.hid hcall
    have HRESR := Lib.hid hresr
    have HWR := Lib.hid hwr
    have HBR := Lib.hid hBr
    clear hcall hresr hwr hboxr hBr
    go_upto_region 5 with fail
    go_cut [6, 7] (fun n6 n7 wx => Hid (∃ (gx a' : Nat) (q : Bool), n6 = .pointer (some ⟨gx, 0, none⟩) ∧ n7 = .bool q ∧ RB wx gx A ws.length c a' v t f s l false ∧ a' ≤ ws.length ∧ IsTo (wKind k) (lsw ws) a a' q ∧ Below wr.heap.size wr wx ∧ wr.heap.size ≤ gx))
    case first =>
     go_region_with (go_at_call 92; refine (HCALL.out _ (by first | exact (Below.refl _ _).drew | exact ba_.drew | trace_state)).mono ?_; rintro e w7 ⟨a', q, rfl, ha', hI, hb7⟩; rw [kw_list] at hI; have HI := Lib.hid hI; have HB7 := Lib.hid hb7; clear hI hb7; try (have hx7 : RZ w7 wr.heap.size := keepB HB7.out (alloc_at wr _); have HX7 := Lib.hid hx7; have e0 : w7.cell? ⟨wr.heap.size, 0, none⟩ = some (.slice none 0 0) := cell_blk hx7 rfl; have e1 : w7.cell? ⟨wr.heap.size, 1, none⟩ = some (.int .i64 0) := cell_blk hx7 rfl; have e2 : w7.cell? ⟨wr.heap.size, 2, none⟩ = some (.int .u8 0) := cell_blk hx7 rfl; have e3 : w7.cell? ⟨wr.heap.size, 3, none⟩ = some (.int .u8 0) := cell_blk hx7 rfl; have e4 : w7.cell? ⟨wr.heap.size, 4, none⟩ = some (.int .u16 0) := cell_blk hx7 rfl; have e5 : w7.cell? ⟨wr.heap.size, 5, none⟩ = some (.int .u32 0) := cell_blk hx7 rfl; have e6 : w7.cell? ⟨wr.heap.size, 6, none⟩ = some (.int .u32 0) := cell_blk hx7 rfl; have e7 : w7.cell? ⟨wr.heap.size, 7, none⟩ = some (.bool false) := cell_blk hx7 rfl; have ek : ∀ i, w7.frozen? ⟨wr.heap.size, i, none⟩ = false := fun i => free_blk hx7; clear hx7))
     all_goals (go_wp2_with fail)
     all_goals go_meet
     all_goals first
      | (have hq : RB (putR w7 wr.heap.size A ws.length c a' v t f s l false) wr.heap.size A ws.length c a' v t f s l false := putR_at HX7.out
         have hb : Below wr.heap.size wr (putR w7 wr.heap.size A ws.length c a' v t f s l false) := putR_below (belowT (by first | exact ba_.drew | exact (Below.refl _ _).alloc (Nat.le_refl _) _) HB7.out) (Nat.le_refl _)
         unfold putR at hq hb
         exact Lib.hid ⟨_, a', q, rfl, rfl, hq, ha', HI.out, hb, Nat.le_refl _⟩)
      | (have hw7 : Below wr.heap.size wr w7 := belowT (by first | exact (Below.refl _ _).drew | exact Below.refl _ _) HB7.out
         have hq : RB (w7.alloc (.cells (rcs A ws.length c a' v t f s l false) 97)) w7.heap.size A ws.length c a' v t f s l false := alloc_at _ _
         have hb := hw7.alloc hw7.size (.cells (rcs A ws.length c a' v t f s l false) 97)
         unfold rcs at hq hb
         exact Lib.hid ⟨_, a', q, rfl, rfl, hq, ha', HI.out, hb, hw7.size⟩)
    case rest =>
     rename World => w7
     obtain ⟨gx, a', q, rfl, rfl, hgx, ha', hI, hbx, hgl⟩ := hcut.out
     have hresx := RZ.keep HRESR.out hbx
     cases q
     · obtain ⟨hno, rfl⟩ := isTo_f hI
       have HNO := Lib.hid hno
       have HBX := Lib.hid hbx
       clear hcut hgx hI hbx hresx hno b0 b1 b2 b3 b4 b5 b6 b7 bk ck b0' b1' b2' b3' b4' b5' b6' b7' ck'
       go_wp2_with fail
       go_roundw
       case rel =>
        refine ⟨k + 1, by omega, by go_num, belowT HBR.out HBX.out, fun j hj => ?_⟩
        by_cases hjk : j = k
        · rw [hjk]; exact HNO.out
        · exact HR.out.2 j (by omega)
       case measure => simp [intOf]; omega
     · have hyes := isTo_t hI
       have hkind := kind_at hlt HR.out.2 hyes
       have x0 : w7.cell? ⟨gx, 0, none⟩ = some (.slice A ws.length c) := cell_blk hgx rfl
       have x1 : w7.cell? ⟨gx, 1, none⟩ = some (.int .i64 a') := cell_blk hgx rfl
       have x2 : w7.cell? ⟨gx, 2, none⟩ = some (.int .u8 v) := cell_blk hgx rfl
       have x3 : w7.cell? ⟨gx, 3, none⟩ = some (.int .u8 t) := cell_blk hgx rfl
       have x4 : w7.cell? ⟨gx, 4, none⟩ = some (.int .u16 f) := cell_blk hgx rfl
       have x5 : w7.cell? ⟨gx, 5, none⟩ = some (.int .u32 s) := cell_blk hgx rfl
       have x6 : w7.cell? ⟨gx, 6, none⟩ = some (.int .u32 l) := cell_blk hgx rfl
       have x7 : w7.cell? ⟨gx, 7, none⟩ = some (.bool false) := cell_blk hgx rfl
       have xk : ∀ j, w7.frozen? ⟨gx, j, none⟩ = false := fun j => free_blk hgx
       have r0 : w7.cell? ⟨(w.heap.size + 1), 0, none⟩ = some (.slice none 0 0) := cell_blk hresx rfl
       have r1 : w7.cell? ⟨(w.heap.size + 1), 1, none⟩ = some (.int .i64 0) := cell_blk hresx rfl
       have r2 : w7.cell? ⟨(w.heap.size + 1), 2, none⟩ = some (.int .u8 0) := cell_blk hresx rfl
       have r3 : w7.cell? ⟨(w.heap.size + 1), 3, none⟩ = some (.int .u8 0) := cell_blk hresx rfl
       have r4 : w7.cell? ⟨(w.heap.size + 1), 4, none⟩ = some (.int .u16 0) := cell_blk hresx rfl
       have r5 : w7.cell? ⟨(w.heap.size + 1), 5, none⟩ = some (.int .u32 0) := cell_blk hresx rfl
       have r6 : w7.cell? ⟨(w.heap.size + 1), 6, none⟩ = some (.int .u32 0) := cell_blk hresx rfl
       have r7 : w7.cell? ⟨(w.heap.size + 1), 7, none⟩ = some (.bool false) := cell_blk hresx rfl
       have rk : ∀ j, w7.frozen? ⟨(w.heap.size + 1), j, none⟩ = false := fun j => free_blk hresx
       have hgs : w.heap.size + 1 ≠ gx := by omega
       have hgw : w.heap.size ≤ gx := by omega
       have HKIND := Lib.hid hkind
       have HBX := Lib.hid (belowT HB2.out (belowT HBR.out hbx))
       clear hcut hgx hI hbx hresx hyes hkind b0 b1 b2 b3 b4 b5 b6 b7 bk ck b0' b1' b2' b3' b4' b5' b6' b7' ck'
       go_wp2_with fail
       refine bodyPost_ret (v := .tuple #[.agg #[.slice A ws.length c, .int .i64 a', .int .u8 v, .int .u8 k, .int .u16 f, .int .u32 s, .int .u32 l, .bool false], .bool true]) ?_ rfl ⟨?_, ?_⟩
       · simp [results, Tryz.results54, go_sem, r0, r1, r2, r3, r4, r5, r6, r7]
       · iterate 9 (with_reducible refine Below.setCell ?_ (by first | exact hgw | simp) _)
         exact HBX.out
       · rw [HKIND.out]
         exact ⟨a', ha', rfl, rfl⟩
  · obtain rfl : k = 4 := by omega
    have b0 : wr.cell? ⟨w.heap.size, 0, none⟩ = some (.slice A ws.length c) := cell_blk hboxr rfl
    have b1 : wr.cell? ⟨w.heap.size, 1, none⟩ = some (.int .i64 a) := cell_blk hboxr rfl
    have b2 : wr.cell? ⟨w.heap.size, 2, none⟩ = some (.int .u8 v) := cell_blk hboxr rfl
    have b3 : wr.cell? ⟨w.heap.size, 3, none⟩ = some (.int .u8 t) := cell_blk hboxr rfl
    have b4 : wr.cell? ⟨w.heap.size, 4, none⟩ = some (.int .u16 f) := cell_blk hboxr rfl
    have b5 : wr.cell? ⟨w.heap.size, 5, none⟩ = some (.int .u32 s) := cell_blk hboxr rfl
    have b6 : wr.cell? ⟨w.heap.size, 6, none⟩ = some (.int .u32 l) := cell_blk hboxr rfl
    have b7 : wr.cell? ⟨w.heap.size, 7, none⟩ = some (.bool false) := cell_blk hboxr rfl
    have bk : ∀ j, wr.frozen? ⟨w.heap.size, j, none⟩ = false := fun j => free_blk hboxr
    have HNO := Lib.hid HR.out.2
    have HRESR := Lib.hid hresr
    have HBOXR := Lib.hid hboxr
    have HWR := Lib.hid hwr
    have HBR := Lib.hid (belowT HB2.out hBr)
    have hbl : w.heap.size + 1 < wr.heap.size := (Array.getElem?_eq_some_iff.1 hresr).1
    clear hresr hwr hboxr hBr
    go_wp2_with fail
    refine (ris_any HWR.out ⟨#[116, 121, 112, 101]⟩ a v t f s l false ha hn).mono ?_
    rintro e w7 ⟨a', q, rfl, ha', hI, hb7⟩
    obtain ⟨w8, hw8⟩ : ∃ w8, w8 = w7.alloc (.cells (rcs A ws.length c a' v t f s l false) 97) := ⟨_, rfl⟩
    have hb78 : Below wr.heap.size wr w8 := by rw [hw8]; exact hb7.alloc hb7.size _
    have hx8 : RB w8 w7.heap.size A ws.length c a' v t f s l false := by rw [hw8]; exact alloc_at _ _
    have hbox8 := HBOXR.out.keep hb78
    have hres8 := RZ.keep HRESR.out hb78
    have hz7 : wr.heap.size ≤ w7.heap.size := hb7.size
    have hw8' := HWR.out.next hb78
    unfold rcs at hw8
    unfold rdg
    clear hb7 b0 b1 b2 b3 b4 b5 b6 b7 bk
    go_upto_region 10 with fail
    rw [← hw8]
    have r0 : w8.cell? ⟨(w.heap.size + 1), 0, none⟩ = some (.slice none 0 0) := cell_blk hres8 rfl
    have r1 : w8.cell? ⟨(w.heap.size + 1), 1, none⟩ = some (.int .i64 0) := cell_blk hres8 rfl
    have r2 : w8.cell? ⟨(w.heap.size + 1), 2, none⟩ = some (.int .u8 0) := cell_blk hres8 rfl
    have r3 : w8.cell? ⟨(w.heap.size + 1), 3, none⟩ = some (.int .u8 0) := cell_blk hres8 rfl
    have r4 : w8.cell? ⟨(w.heap.size + 1), 4, none⟩ = some (.int .u16 0) := cell_blk hres8 rfl
    have r5 : w8.cell? ⟨(w.heap.size + 1), 5, none⟩ = some (.int .u32 0) := cell_blk hres8 rfl
    have r6 : w8.cell? ⟨(w.heap.size + 1), 6, none⟩ = some (.int .u32 0) := cell_blk hres8 rfl
    have r7 : w8.cell? ⟨(w.heap.size + 1), 7, none⟩ = some (.bool false) := cell_blk hres8 rfl
    have rk : ∀ j, w8.frozen? ⟨(w.heap.size + 1), j, none⟩ = false := fun j => free_blk hres8
    cases q
    · obtain ⟨hno, rfl⟩ := isTo_f hI
      have hkind := kind_no HNO.out hno
      have b0 : w8.cell? ⟨w.heap.size, 0, none⟩ = some (.slice A ws.length c) := cell_blk hbox8 rfl
      have b1 : w8.cell? ⟨w.heap.size, 1, none⟩ = some (.int .i64 a') := cell_blk hbox8 rfl
      have b2 : w8.cell? ⟨w.heap.size, 2, none⟩ = some (.int .u8 v) := cell_blk hbox8 rfl
      have b3 : w8.cell? ⟨w.heap.size, 3, none⟩ = some (.int .u8 t) := cell_blk hbox8 rfl
      have b4 : w8.cell? ⟨w.heap.size, 4, none⟩ = some (.int .u16 f) := cell_blk hbox8 rfl
      have b5 : w8.cell? ⟨w.heap.size, 5, none⟩ = some (.int .u32 s) := cell_blk hbox8 rfl
      have b6 : w8.cell? ⟨w.heap.size, 6, none⟩ = some (.int .u32 l) := cell_blk hbox8 rfl
      have b7 : w8.cell? ⟨w.heap.size, 7, none⟩ = some (.bool false) := cell_blk hbox8 rfl
      have bk : ∀ j, w8.frozen? ⟨w.heap.size, j, none⟩ = false := fun j => free_blk hbox8
      have HKIND := Lib.hid hkind
      have HBX := Lib.hid (belowT HBR.out hb78)
      clear hw8 hI hno hkind hb78 hx8 hbox8 hres8 hw8'
      go_wp2_with fail
      refine bodyPost_ret (v := .tuple #[.agg #[.slice A ws.length c, .int .i64 a', .int .u8 v, .int .u8 t, .int .u16 f, .int .u32 s, .int .u32 l, .bool false], .bool false]) ?_ rfl ⟨?_, ?_⟩
      · simp [results, Tryz.results54, go_sem, r0, r1, r2, r3, r4, r5, r6, r7]
      · iterate 8 (with_reducible refine Below.setCell ?_ (by simp) _)
        exact HBX.out
      · rw [HKIND.out]
        rfl
    · have hyes := isTo_t hI
      have hkind := kind_type HNO.out hyes
      have x0 : w8.cell? ⟨w7.heap.size, 0, none⟩ = some (.slice A ws.length c) := cell_blk hx8 rfl
      have x1 : w8.cell? ⟨w7.heap.size, 1, none⟩ = some (.int .i64 a') := cell_blk hx8 rfl
      have x2 : w8.cell? ⟨w7.heap.size, 2, none⟩ = some (.int .u8 v) := cell_blk hx8 rfl
      have x3 : w8.cell? ⟨w7.heap.size, 3, none⟩ = some (.int .u8 t) := cell_blk hx8 rfl
      have x4 : w8.cell? ⟨w7.heap.size, 4, none⟩ = some (.int .u16 f) := cell_blk hx8 rfl
      have x5 : w8.cell? ⟨w7.heap.size, 5, none⟩ = some (.int .u32 s) := cell_blk hx8 rfl
      have x6 : w8.cell? ⟨w7.heap.size, 6, none⟩ = some (.int .u32 l) := cell_blk hx8 rfl
      have x7 : w8.cell? ⟨w7.heap.size, 7, none⟩ = some (.bool false) := cell_blk hx8 rfl
      have xk : ∀ j, w8.frozen? ⟨w7.heap.size, j, none⟩ = false := fun j => free_blk hx8
      have HKIND := Lib.hid hkind
      have HBX := Lib.hid (belowT HBR.out hb78)
      have HX8 := Lib.hid hx8
      have HRES8 := Lib.hid hres8
      have HW8 := Lib.hid hw8'
      clear hw8 hI hyes hkind hb78 hx8 hbox8 hres8 hw8'
      go_wp2_with fail
      refine (rnext_any HW8.out a' v t f s l false 4 255 ha' hn HSZ.out).mono ?_
      rintro e w9 ⟨a'', m, bad', rfl, ha'', hN, hb9⟩
      have hx9 := HX8.out.keep hb9
      have hres9 := RZ.keep HRES8.out hb9
      have HN := Lib.hid hN
      have HB9 := Lib.hid (belowT HBX.out hb9)
      unfold rdg
      clear r0 r1 r2 r3 r4 r5 r6 r7 rk x0 x1 x2 x3 x4 x5 x6 x7 xk
      have x0 : w9.cell? ⟨w7.heap.size, 0, none⟩ = some (.slice A ws.length c) := cell_blk hx9 rfl
      have x1 : w9.cell? ⟨w7.heap.size, 1, none⟩ = some (.int .i64 a') := cell_blk hx9 rfl
      have x2 : w9.cell? ⟨w7.heap.size, 2, none⟩ = some (.int .u8 v) := cell_blk hx9 rfl
      have x3 : w9.cell? ⟨w7.heap.size, 3, none⟩ = some (.int .u8 t) := cell_blk hx9 rfl
      have x4 : w9.cell? ⟨w7.heap.size, 4, none⟩ = some (.int .u16 f) := cell_blk hx9 rfl
      have x5 : w9.cell? ⟨w7.heap.size, 5, none⟩ = some (.int .u32 s) := cell_blk hx9 rfl
      have x6 : w9.cell? ⟨w7.heap.size, 6, none⟩ = some (.int .u32 l) := cell_blk hx9 rfl
      have x7 : w9.cell? ⟨w7.heap.size, 7, none⟩ = some (.bool false) := cell_blk hx9 rfl
      have xk : ∀ j, w9.frozen? ⟨w7.heap.size, j, none⟩ = false := fun j => free_blk hx9
      have hgs : w.heap.size + 1 ≠ w7.heap.size := by omega
      have hgw : w.heap.size ≤ w7.heap.size := by omega
      obtain ⟨w10, hw10⟩ : ∃ w10, w10 = putR w9 w7.heap.size A ws.length c a'' v t f s l bad' := ⟨_, rfl⟩
      have hx10 : RB w10 w7.heap.size A ws.length c a'' v t f s l bad' := by rw [hw10]; exact putR_at hx9
      have hres10 : RZ w10 (w.heap.size + 1) := by rw [hw10]; exact (putR_other hgs).trans hres9
      have HB10 := Lib.hid (show Below w.heap.size w w10 by rw [hw10]; exact putR_below HB9.out hgw)
      unfold putR at hw10
      clear hN hb9 hx9 hres9
      go_upto_region 13 with fail
      rw [← hw10]
      clear hw10 x0 x1 x2 x3 x4 x5 x6 x7 xk
      have x0 : w10.cell? ⟨w7.heap.size, 0, none⟩ = some (.slice A ws.length c) := cell_blk hx10 rfl
      have x1 : w10.cell? ⟨w7.heap.size, 1, none⟩ = some (.int .i64 a'') := cell_blk hx10 rfl
      have x2 : w10.cell? ⟨w7.heap.size, 2, none⟩ = some (.int .u8 v) := cell_blk hx10 rfl
      have x3 : w10.cell? ⟨w7.heap.size, 3, none⟩ = some (.int .u8 t) := cell_blk hx10 rfl
      have x4 : w10.cell? ⟨w7.heap.size, 4, none⟩ = some (.int .u16 f) := cell_blk hx10 rfl
      have x5 : w10.cell? ⟨w7.heap.size, 5, none⟩ = some (.int .u32 s) := cell_blk hx10 rfl
      have x6 : w10.cell? ⟨w7.heap.size, 6, none⟩ = some (.int .u32 l) := cell_blk hx10 rfl
      have x7 : w10.cell? ⟨w7.heap.size, 7, none⟩ = some (.bool bad') := cell_blk hx10 rfl
      have xk : ∀ j, w10.frozen? ⟨w7.heap.size, j, none⟩ = false := fun j => free_blk hx10
      have r0 : w10.cell? ⟨(w.heap.size + 1), 0, none⟩ = some (.slice none 0 0) := cell_blk hres10 rfl
      have r1 : w10.cell? ⟨(w.heap.size + 1), 1, none⟩ = some (.int .i64 0) := cell_blk hres10 rfl
      have r2 : w10.cell? ⟨(w.heap.size + 1), 2, none⟩ = some (.int .u8 0) := cell_blk hres10 rfl
      have r3 : w10.cell? ⟨(w.heap.size + 1), 3, none⟩ = some (.int .u8 0) := cell_blk hres10 rfl
      have r4 : w10.cell? ⟨(w.heap.size + 1), 4, none⟩ = some (.int .u16 0) := cell_blk hres10 rfl
      have r5 : w10.cell? ⟨(w.heap.size + 1), 5, none⟩ = some (.int .u32 0) := cell_blk hres10 rfl
      have r6 : w10.cell? ⟨(w.heap.size + 1), 6, none⟩ = some (.int .u32 0) := cell_blk hres10 rfl
      have r7 : w10.cell? ⟨(w.heap.size + 1), 7, none⟩ = some (.bool false) := cell_blk hres10 rfl
      have rk : ∀ j, w10.frozen? ⟨(w.heap.size + 1), j, none⟩ = false := fun j => free_blk hres10
      clear hx10 hres10
      go_wp2_with fail
      refine bodyPost_ret (v := .tuple #[.agg #[.slice A ws.length c, .int .i64 a'', .int .u8 v, .int .u8 (m % 256), .int .u16 f, .int .u32 s, .int .u32 l, .bool bad'], .bool true]) ?_ rfl ⟨?_, ?_⟩
      · simp [results, Tryz.results54, go_sem, r0, r1, r2, r3, r4, r5, r6, r7]
      · iterate 9 (with_reducible refine Below.setCell ?_ (by first | exact hgw | simp) _)
        exact HB10.out
      · rw [HKIND.out, HN.out]
        have hm : (((IntKind.u8.wrap m).toNat : Nat) : Int) = m % 256 := by
         have e : IntKind.u8.wrap m = m % 256 := rfl
         rw [e]; omega
        refine ⟨a'', ha'', rfl, ?_⟩
        simp only [hm]
        rfl
end Go.Proofs.YtidmgckmphcegaaGreatDoor
