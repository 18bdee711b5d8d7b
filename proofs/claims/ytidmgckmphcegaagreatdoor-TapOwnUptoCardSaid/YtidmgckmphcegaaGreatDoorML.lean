import Derived.Test.YtidmgckmphcegaaGreatDoorMG
import Derived.Test.YtidmgckmphcegaaGreatDoorMC
import Derived.Test.YtidmgckmphcegaaGreatDoorMB
import Derived.Shelf.Strings.BuilderK
import Derived.Test.YtidmgckmphcegaaGreatDoorMD
import Derived.Test.YtidmgckmphcegaaGreatDoorMS
import Derived.Test.YtidmgckmphcegaaGreatDoorMW
/-
 What a tap tells, without a program; tap.why; tap.New, Err, Seen.
-/
namespace Go.Proofs.YtidmgckmphcegaaGreatDoor
open Go.RowKit Go.Proofs.YtidmgckmphcegaaGreatDoorW.PrintWords Go.Proofs.YtidmgckmphcegaaGreatDoorW.PrintLast Go.Proofs.YtidmgckmphcegaaGreatDoor.Px
set_option linter.unusedVariables false
set_option linter.unusedSimpArgs false
def hdF (p : Fr) : Hd := ⟨p.f0.f0.toNat, p.f0.f1.toNat, p.f0.f2.toNat, p.f0.f3.toNat, p.f0.f4.toNat⟩
def lineF (p : Fr) : List UInt8 := lineB (hdF p) p.f1
def tellL (fs : List Fr) : List UInt8 := fs.flatMap fun p => lineF p ++ [10]
theorem tellL_snoc (fs : List Fr) (p : Fr) : tellL (fs ++ [p]) = tellL fs ++ lineF p ++ [10] := by simp [tellL]
def whyW (c : Nat) : List UInt8 := if c = 11 then wVer else if c = 12 then wType else if c = 13 then wFlags else if c = 14 then [105, 100] else wLength
def wBroken : List UInt8 := [35, 98, 114, 111, 107, 101, 110]
def brokenL (c : Nat) (st : Int) : List UInt8 := Lib.join [wBroken, whyW c, wStream, Lib.decDigits st.toNat] [32] ++ [10]
def tellX (most : Int) (xs ys : List Int) : List UInt8 :=
 if codeX most xs = 0 then tellL (newX most xs ys) ++ (if codeX most (xs ++ ys) = 0 then [] else brokenL (codeX most (xs ++ ys)) (stX most (xs ++ ys))) else []
def cntF (k : Int) (fs : List Fr) : Nat := (fs.filter fun p => decide (p.f0.f1 = k)).length
def sizF (k : Int) (fs : List Fr) : Nat := ((fs.filter fun p => decide (p.f0.f1 = k)).map fun p => p.f1.length).sum
theorem cntF_snoc (k : Int) (fs : List Fr) (p : Fr) : cntF k (fs ++ [p]) = cntF k fs + if p.f0.f1 = k then 1 else 0 := by
 unfold cntF; rw [List.filter_append, List.length_append]
 by_cases h : p.f0.f1 = k <;> simp [h]
theorem sizF_snoc (k : Int) (fs : List Fr) (p : Fr) : sizF k (fs ++ [p]) = sizF k fs + if p.f0.f1 = k then p.f1.length else 0 := by
 unfold sizF; rw [List.filter_append, List.map_append, List.sum_append]
 by_cases h : p.f0.f1 = k <;> simp [h]
theorem cntF_le (k : Int) (fs : List Fr) : cntF k fs ≤ fs.length := List.length_filter_le _ _
theorem sizF_le (k : Int) : ∀ fs : List Fr, sizF k fs ≤ (flat fs).length
 | [] => by simp [sizF]
 | p :: fs => by
   have ih := sizF_le k fs
   rw [flat_cons, List.length_append, encF_len]
   unfold sizF at *
   rw [List.filter_cons]
   split
   · simp; omega
   · omega
def tcs (gd : Nat) (fs : List Fr) : Array Value := #[.pointer (some ⟨gd, 0, none⟩), .int .i64 (cntF 0 fs), .int .i64 (sizF 0 fs), .int .i64 (cntF 1 fs), .int .i64 (sizF 1 fs), .int .i64 (cntF 2 fs), .int .i64 (sizF 2 fs), .int .i64 (cntF 3 fs), .int .i64 (sizF 3 fs)]
structure TapV (sa : Nat → Addr) (w0 w : World) (g gd : Nat) (most : Int) (xs : List Int) (v : Value) (b : Nat) : Prop where
 box : w.heap[g]? = some (.cells (tcs gd (framesX most xs)) 119 (0, 0))
 dec : DecV sa w0 w gd most xs v b
 g0 : w0.heap.size ≤ g
 gd0 : w0.heap.size ≤ gd
theorem TapV.lt {sa : Nat → Addr} {w0 w : World} {g gd b : Nat} {most : Int} {xs : List Int} {v : Value} (h : TapV sa w0 w g gd most xs v b) : g < w.heap.size := (Array.getElem?_eq_some_iff.1 h.box).1
theorem TapV.below {sa : Nat → Addr} {w0 w w1 : World} {g gd b : Nat} {most : Int} {xs : List Int} {v : Value} (h : TapV sa w0 w g gd most xs v b) (hb : Below w.heap.size w w1) : TapV sa w0 w1 g gd most xs v b :=
 ⟨keepB hb h.box, h.dec.below hb, h.g0, h.gd0⟩
theorem why_is {sa : Nat → Addr} {w : World} {c : Nat} {s : Int} {v : Value} (hG : Good w sa) (hE : EV sa w (1000 + c) s v) (h1 : 11 ≤ c) (h2 : c ≤ 15) (n : Nat) (n1 : 11 ≤ n) (n2 : n ≤ 14) (h28 : inG 28 = true := by first | rfl | assumption) :
    Calls Tryz.prog 51 #[v, sv (sa n)] w fun e w' => e = .returned (.bool (c == n)) ∧ w' = w := by
 have h := is_any hG hE n (by omega) (by omega) (fun _ h => absurd h (by omega)) (fun _ => by
  rw [Nat.add_sub_cancel_left]
  obtain rfl | rfl | rfl | rfl | rfl : c = 11 ∨ c = 12 ∨ c = 13 ∨ c = 14 ∨ c = 15 := by omega
  all_goals rfl) (by
  obtain rfl | rfl | rfl | rfl : n = 11 ∨ n = 12 ∨ n = 13 ∨ n = 14 := by omega
  all_goals rfl)
 have e : isB (1000 + c) n = (c == n) := by
  unfold isB
  rw [Bool.eq_iff_iff]
  simp
  omega
 rw [e] at h
 exact h
set_option maxHeartbeats 1000000 in
theorem why_any {sa : Nat → Addr} {w : World} {c : Nat} {s : Int} {v : Value} (hG : Good w sa) (hE : EV sa w (1000 + c) s v) (h1 : 11 ≤ c) (h2 : c ≤ 15) (h28 : inG 28 = true := by first | rfl | assumption) :
    Calls Tryz.prog 76 #[v] w fun e w' => e = .returned (.string ⟨(whyW c).toArray⟩) ∧ w' = w := by
 have i11 := why_is hG hE h1 h2 11 (by omega) (by omega)
 have i12 := why_is hG hE h1 h2 12 (by omega) (by omega)
 have i13 := why_is hG hE h1 h2 13 (by omega) (by omega)
 have i14 := why_is hG hE h1 h2 14 (by omega) (by omega)
 have g11 := (hG.at_ 11 (by omega) (by omega)).glob
 have g12 := (hG.at_ 12 (by omega) (by omega)).glob
 have g13 := (hG.at_ 13 (by omega) (by omega)).glob
 have g14 := (hG.at_ 14 (by omega) (by omega)).glob
 simp only [sgb] at g11 g12 g13 g14
 have H11 := Lib.hid i11
 have H12 := Lib.hid i12
 have H13 := Lib.hid i13
 have H14 := Lib.hid i14
 clear i11 i12 i13 i14 hG hE
 obtain rfl | rfl | rfl | rfl | rfl : c = 11 ∨ c = 12 ∨ c = 13 ∨ c = 14 ∨ c = 15 := by omega
 all_goals
  go_enter Tryz.func76, Tryz.ntmps76
  go_wp2_with fail
  refine H11.out.mono ?_
  rintro e w1 ⟨rfl, rfl⟩
  go_wp2_with fail
  try (refine H12.out.mono ?_; rintro e w1 ⟨rfl, rfl⟩; go_wp2_with fail)
  try (refine H13.out.mono ?_; rintro e w1 ⟨rfl, rfl⟩; go_wp2_with fail)
  try (refine H14.out.mono ?_; rintro e w1 ⟨rfl, rfl⟩; go_wp2_with fail)
  go_ret
  exact ⟨rfl, rfl⟩
theorem tnew_yes (sa : Nat → Addr) {w0 w : World} (h0 : w0.heap.size ≤ w.heap.size) (most : Int) (m1 : 1 ≤ most) (m2 : most ≤ 65536) :
    Calls Tryz.prog 31 #[.int .i64 most] w fun e w' => ∃ g gd, e = .returned (.tuple #[.pointer (some ⟨g, 0, none⟩), .nilIface]) ∧ w.heap.size ≤ g ∧ w.heap.size ≤ gd ∧ TapV sa w0 w' g gd most [] (.slice none 0 0) 0 ∧ Below w.heap.size w w' := by
 go_enter Tryz.func31, Tryz.ntmps31
 go_wp2_with fail
 refine (new_dec sa (w0 := w0) most m1 m2).mono ?_
 rintro e w1 ⟨rfl, hd1, hb1⟩
 have HD := Lib.hid hd1
 have HB := Lib.hid hb1
 clear hd1 hb1
 go_wp2_with fail
 go_ret2
 refine ⟨w1.heap.size, w.heap.size, rfl, HB.out.size, Nat.le_refl _, ⟨?_, HD.out.below ba_, Nat.le_trans h0 HB.out.size, h0⟩, HB.out.alloc HB.out.size _⟩
 rw [alloc_at]
 have hf : framesX most [] = [] := by unfold framesX; rw [cut_short (by simp)]
 rw [hf]
 rfl
theorem terr_any {sa : Nat → Addr} {w0 w : World} {g gd b : Nat} {most : Int} {xs : List Int} {v : Value} (h : TapV sa w0 w g gd most xs v b) :
    Calls Tryz.prog 28 #[.pointer (some ⟨g, 0, none⟩)] w fun e w' => e = .returned (errX most xs b) ∧ w' = w := by
 have c0 : w.cell? ⟨g, 0, none⟩ = some (.pointer (some ⟨gd, 0, none⟩)) := cell_blk h.box rfl
 have H := Lib.hid (err_dec h.dec)
 clear h
 go_enter Tryz.func28, Tryz.ntmps28
 go_wp2_with fail
 refine H.out.mono ?_
 rintro e w1 ⟨rfl, rfl⟩
 go_wp2_with fail
 go_ret
 exact ⟨rfl, rfl⟩
end Go.Proofs.YtidmgckmphcegaaGreatDoor
/-
 (*Tap).Feed and Seen.
-/
namespace Go.Proofs.YtidmgckmphcegaaGreatDoor
open Go.RowKit Go.Proofs.YtidmgckmphcegaaGreatDoorW.PrintWords Go.Proofs.YtidmgckmphcegaaGreatDoorW.PrintLast Go.Proofs.YtidmgckmphcegaaGreatDoor.Px
set_option linter.unusedVariables false
set_option linter.unusedSimpArgs false
def BldF (B b : Nat) (l : List UInt8) (w : World) : Prop := Lib.IsBuilderF 126 5 B b (Lib.byteCells l) w
theorem BldF.lt {B b : Nat} {l : List UInt8} {w : World} (h : BldF B b l w) : b < w.heap.size := by
 rcases h with ⟨_, v, hb, _⟩ | ⟨_, v, hb, _⟩ <;> exact (Array.getElem?_eq_some_iff.1 hb).1
theorem BldF.step {B b : Nat} {l : List UInt8} {w w1 : World} (h : BldF B b l w) (hs : ∀ k, B ≤ k → k < w.heap.size → w1.heap[k]? = w.heap[k]?) : BldF B b l w1 := by
 have key : ∀ p, Lib.BuilderAtF 126 5 B b p (Lib.byteCells l) w → Lib.BuilderAtF 126 5 B b p (Lib.byteCells l) w1 := by
  rintro p ⟨hB, v, hb, hown, hne⟩
  have hlt : b < w.heap.size := (Array.getElem?_eq_some_iff.1 hb).1
  refine ⟨hB, v, (hs b hB hlt).trans hb, ?_, hne⟩
  obtain ⟨h1, h2⟩ := hown
  refine ⟨h1, ?_⟩
  rcases h2 with h2 | ⟨g, cap, cur, fz, rfl, hg, hh, r⟩
  · exact .inl h2
  · exact .inr ⟨g, cap, cur, fz, rfl, hg, (hs g hg (Array.getElem?_eq_some_iff.1 hh).1).trans hh, r⟩
 exact h.imp (key _) (key _)
theorem BldF.below {B b : Nat} {l : List UInt8} {w w1 : World} (h : BldF B b l w) (hb : Below w.heap.size w w1) : BldF B b l w1 := h.step fun k _ hk => hb.block k hk
theorem bldF_new (w : World) : BldF w.heap.size w.heap.size [] (w.alloc (.cells #[.pointer none, .slice none 0 0] 126)) := Lib.IsBuilderF.of (bld_new w)
theorem bldF_byte {B b : Nat} {l : List UInt8} (c : UInt8) {w : World} (h : BldF B b l w) (hl : l.length + 1 ≤ 140737488355328) (hB : B ≤ w.heap.size) {x : Int} (hx : x = c.toNat) :
    Calls Tryz.prog 74 #[.pointer (some ⟨b, 0, none⟩), .int .u8 x] w fun e w' => e = .returned .nilIface ∧ BldF B b (l ++ [c]) w' ∧ Below B w w' ∧ Lib.OthersKept 5 (some b) w w' := by
 subst hx
 refine (Any.Builder_WriteByte_k lays167 shB_extra B b (Lib.byteCells l) c.toNat w h (by rw [byteCells_len]; exact hl) hB).mono ?_
 rintro e w' ⟨he, h1, h2, h3⟩
 refine ⟨he, .inr ?_, h2, h3⟩
 have e2 : Lib.byteCells (l ++ [c]) = Lib.byteCells l ++ [.int .u8 c.toNat] := by rw [byteCells_app]; rfl
 rw [e2]
 exact h1
theorem bldF_str {B b : Nat} {l : List UInt8} (s : ByteArray) {w : World} (h : BldF B b l w) (hl : l.length + s.size ≤ 140737488355328) (hB : B ≤ w.heap.size) :
    Calls Tryz.prog 73 #[.pointer (some ⟨b, 0, none⟩), .string s] w fun e w' => e = .returned (.tuple #[.int .i64 s.size, .nilIface]) ∧ BldF B b (l ++ s.data.toList) w' ∧ Below B w w' ∧ Lib.OthersKept 5 (some b) w w' := by
 refine (Any.Builder_WriteString_k lays166 shB_extra B b (Lib.byteCells l) s w h (by rw [byteCells_len]; exact hl) hB).mono ?_
 rintro e w' ⟨he, h1, h2, h3⟩
 refine ⟨he, .inr ?_, h2, h3⟩
 rw [byteCells_app]
 exact h1
theorem F_rd {w : World} {ok : Nat → Prop} {A : Option Addr} {n : Nat} {xs : List Int} (h : Kd.F (Kd.int .u8) w ok A n xs) (hb : ∀ x ∈ xs, 0 ≤ x ∧ x ≤ 255) : Rd w A n xs :=
 ⟨(Kd.F_now h).1, hb, fun hn => by
   obtain ⟨ad, c, rfl, _, _, _⟩ := Kd.C_get (Kd.F_now h) 0 0 (by omega) (by omega)
   refine ⟨ad, rfl, fun j hj => ?_⟩
   obtain ⟨ad', c', e, _, hK, hc⟩ := Kd.C_get (Kd.F_now h) 0 (j : Int) (by omega) (by omega)
   injection e with e
   subst e
   obtain rfl : c' = [.int .u8 (xs.getD (j : Int).toNat 0)] := hK
   have := hc 0 _ rfl
   simpa [Kd.int, Kd.scalar] using this⟩
theorem fok_bd {most : Int} {p : Fr} (h : FOk most p) : p.f0.f0.toNat ≤ 255 ∧ p.f0.f1.toNat ≤ 255 ∧ p.f0.f2.toNat ≤ 65535 ∧ p.f0.f3.toNat ≤ 4294967295 ∧ p.f0.f4.toNat ≤ 4294967295 := by
 have := h.hd.v1; have := h.hd.t1; have := h.hd.f1; have := h.hd.s1; have := h.hd.l1
 omega
theorem fok_ty {most : Int} {p : Fr} (h : FOk most p) : p.f0.f1 = 0 ∨ p.f0.f1 = 1 ∨ p.f0.f1 = 2 ∨ p.f0.f1 = 3 := by
 have h0 := h.hd.t0
 have h1 : ¬ 4 ≤ p.f0.f1 := fun e => by
  have := h.ok
  unfold chk at this
  by_cases hv : p.f0.f0 ≠ 0
  · rw [if_pos hv] at this; exact absurd this (by decide)
  · rw [if_neg hv, if_pos e] at this; exact absurd this (by decide)
 omega
theorem lineF_len {most : Int} {p : Fr} (h : FOk most p) : (lineF p).length + 1 ≤ 40 * (12 + p.f1.length) := by
 obtain ⟨h0, h1, h2, h3, h4⟩ := fok_bd h
 have ht := text_len _ _ _ _ _ h0 h1 h2 h3 h4
 have hd := told_len p.f1
 unfold lineF lineB textH hdF
 dsimp only
 split
 · rw [List.length_append, List.length_cons]; omega
 · omega
theorem flat_cnt : ∀ fs : List Fr, fs.length ≤ (flat fs).length
 | [] => by simp
 | p :: fs => by
   have ih := flat_cnt fs
   rw [flat_cons, List.length_append, encF_len]
   simp only [List.length_cons]; omega
theorem tellL_len {most : Int} : ∀ fs : List Fr, (∀ p ∈ fs, FOk most p) → (tellL fs).length ≤ 40 * (flat fs).length
 | [], _ => by simp [tellL]
 | p :: fs, h => by
   have ih := tellL_len fs fun q hq => h q (by simp [hq])
   have h1 := lineF_len (h p (by simp))
   have e : tellL (p :: fs) = lineF p ++ [10] ++ tellL fs := by simp [tellL]
   rw [e, flat_cons, List.length_append, List.length_append, List.length_append, encF_len]
   simp only [List.length_cons, List.length_nil]
   omega
structure TL (w0 w3 wr : World) (g : Nat) (l : List UInt8) (cs : Array Value) : Prop where
 below : Below w0.heap.size w0 wr
 kept : Kept w3 wr (fun k => k = g)
 bld : BldF w3.heap.size w3.heap.size l wr
 box : wr.heap[g]? = some (.cells cs 119 (0, 0))
theorem TL.next {w0 w3 wr w1 : World} {g : Nat} {l : List UInt8} {cs : Array Value} (h : TL w0 w3 wr g l cs) (hb : Below wr.heap.size wr w1) : TL w0 w3 w1 g l cs :=
 ⟨belowT h.below hb, h.kept.below hb, h.bld.below hb, keepB hb h.box⟩
theorem TL.put {w0 w3 wr w1 : World} {g : Nat} {l l' : List UInt8} {cs : Array Value} (h : TL w0 w3 wr g l cs) (h03 : w0.heap.size ≤ w3.heap.size) (hg : g < w3.heap.size) (hb : Below w3.heap.size wr w1) (hl : BldF w3.heap.size w3.heap.size l' w1) : TL w0 w3 w1 g l' cs :=
 ⟨h.below.trans (hb.mono h03), ⟨Nat.le_trans h.kept.1 hb.size, fun k hk hn => (hb.block k hk).trans (h.kept.2 k hk hn)⟩, hl, (hb.block g hg).trans h.box⟩
theorem TL.set {w0 w3 wr : World} {g j : Nat} {l : List UInt8} {cs : Array Value} (h : TL w0 w3 wr g l cs) (hg0 : w0.heap.size ≤ g) (hg : g < w3.heap.size) (v : Value) : TL w0 w3 (wr.setCell ⟨g, j, none⟩ v) g l (cs.setIfInBounds j v) :=
 ⟨h.below.setCell hg0 _, h.kept.setCell (.inl rfl) _, h.bld.step fun k hk _ => set_other _ (by omega), set_blk _ h.box⟩
theorem TL.drew {w0 w3 wr : World} {g : Nat} {l : List UInt8} {cs : Array Value} (h : TL w0 w3 wr g l cs) : TL w0 w3 wr.drew g l cs := h.next (Below.refl _ _).drew
structure TFed (sa : Nat → Addr) (w0 w w' : World) (g gd : Nat) (most : Int) (xs ys : List Int) (v : Value) (b : Nat) (v' : Value) (b' : Nat) : Prop where
 tap : TapV sa w0 w' g gd most (xs ++ ys) v' b'
 below : Below w0.heap.size w0 w'
 kept : Kept w w' (fun k => k = g ∨ k = gd ∨ some k = v.ownBlock)
 row : v'.ownBlock = v.ownBlock ∨ v'.ownBlock = none ∨ ∃ k, v'.ownBlock = some k ∧ w.heap.size ≤ k
 same : codeX most xs ≠ 0 → b' = b
theorem cells_four (w : World) (a b c d : ByteArray) : ∀ (j : Nat) x, [a, b, c, d][j]? = some x → (w.alloc (.cells #[.string a, .string b, .string c, .string d] 9)).cell? ⟨w.heap.size, j, none⟩ = some (.string x) := by
 intro j x h
 have hx := alloc_at w (.cells #[.string a, .string b, .string c, .string d] 9)
 rcases j with _ | _ | _ | _ | j
 · simp at h; subst h; exact cell_blk hx rfl
 · simp at h; subst h; exact cell_blk hx rfl
 · simp at h; subst h; exact cell_blk hx rfl
 · simp at h; subst h; exact cell_blk hx rfl
 · simp at h
theorem joined4 (w : World) (a b c d : ByteArray) (hlen : (Lib.join (([a, b, c, d] : List ByteArray).map (·.data.toList)) [32]).length ≤ 140737488355328) :
    Calls Tryz.prog 49 #[.slice (some ⟨w.heap.size, 0, none⟩) 4 4] (w.alloc (.cells #[.string a, .string b, .string c, .string d] 9)) fun e w' => e = .returned (.string ⟨(Lib.join (([a, b, c, d] : List ByteArray).map (·.data.toList)) [32]).toArray⟩) ∧ Below (w.alloc (.cells #[.string a, .string b, .string c, .string d] 9)).heap.size (w.alloc (.cells #[.string a, .string b, .string c, .string d] 9)) w' :=
 joined_any w.heap.size 4 [a, b, c, d] _ (cells_four w a b c d) (by simp) (by simp) (by simp) hlen
theorem ev_below {sa : Nat → Addr} {w w' : World} {c : Nat} {s : Int} {v : Value} (h : EV sa w c s v) (hb : Below w.heap.size w w') : EV sa w' c s v := by
 rcases h with h | h | ⟨a1, a2, a3, b, o, h, h1, h2⟩
 · exact .inl h
 · exact .inr (.inl h)
 · exact .inr (.inr ⟨a1, a2, a3, b, o, h, keepA hb h1, keepA hb h2⟩)
theorem brok_len (c n : Nat) (hn : n < 4294967296) : (Lib.join (([⟨wBroken.toArray⟩, ⟨(whyW c).toArray⟩, ⟨#[115, 116, 114, 101, 97, 109]⟩, ⟨(Lib.decDigits n).toArray⟩] : List ByteArray).map (·.data.toList)) [32]).length ≤ 420 :=
 join_sml (fun x hx => by
  simp at hx
  rcases hx with rfl | rfl | rfl | rfl
  · unfold Sml; decide
  · unfold Sml whyW; split <;> (try split) <;> (try split) <;> (try split) <;> decide
  · unfold Sml; decide
  · exact dec_sml _ (by omega)) (by simp)
theorem as_at {w : World} (hT : ErT w) (b : Nat) :
    Calls Tryz.prog 75 #[vv b 0, .iface 134 (.pointer (some ⟨w.heap.size, 0, none⟩))] (w.alloc (.cells #[.pointer none] 131)) fun e w' => e = .returned (.bool true) ∧ Below w.heap.size w w' ∧ w'.cell? ⟨w.heap.size, 0, none⟩ = some (.pointer (some ⟨b, 0, none⟩)) := by
 have hb : Below w.heap.size w (w.alloc (.cells #[.pointer none] 131)) := (Below.refl _ _).alloc (Nat.le_refl _) _
 have q0 : (w.alloc (.cells #[.pointer none] 131)).cell? ⟨w.heap.size, 0, none⟩ = some (.pointer none) := by simp
 have q1 : (w.alloc (.cells #[.pointer none] 131)).frozen? ⟨w.heap.size, 0, none⟩ = false := by simp
 refine (as_hit ⟨b, 0, none⟩ ⟨w.heap.size, 0, none⟩ _ _ (keepA hb hT) q0 q1).mono ?_
 rintro e w' ⟨rfl, rfl⟩
 refine ⟨rfl, ?_, ?_⟩
 · have h1 := hb.alloc hb.size (.cells #[.pointer (some ⟨w.heap.size, 0, none⟩)] 134)
   have h2 := h1.alloc h1.size (.cells #[.pointer (some ⟨53, 134, none⟩), .pointer (some ⟨(w.alloc (.cells #[.pointer none] 131)).heap.size, 0, none⟩), .int .u64 150] 177)
   have h3 := h2.alloc h2.size (.cells #[.pointer (some ⟨53, 134, none⟩), .pointer (some ⟨(w.alloc (.cells #[.pointer none] 131)).heap.size, 0, none⟩), .int .u64 150] 177)
   have h4 := h3.alloc h3.size (.cells #[.pointer (some ⟨b, 0, none⟩)] 131)
   exact h4.setCell (Nat.le_refl _) _
 · have hx : ∀ o1 o2 o3 o4 : Obj, ((((((w.alloc (.cells #[.pointer none] 131)).alloc o1).alloc o2).alloc o3).alloc o4).setCell ⟨w.heap.size, 0, none⟩ (.pointer (some ⟨b, 0, none⟩))).cell? ⟨w.heap.size, 0, none⟩ = some (.pointer (some ⟨b, 0, none⟩)) := fun o1 o2 o3 o4 => by
     refine cell_blk (set_blk _ (keepB (((((Below.refl _ _).alloc (Nat.le_refl _) o1).alloc (by simp) o2).alloc (by simp <;> omega) o3).alloc (by simp <;> omega) o4) (alloc_blk w (.cells #[.pointer none] 131)))) rfl
   exact hx _ _ _ _
structure TEnd (sa : Nat → Addr) (w0 w w3 : World) (g gd : Nat) (most : Int) (xs ys : List Int) (v v3 : Value) (b b3 : Nat) : Prop where
 dec : DecV sa w0 w3 gd most (xs ++ ys) v3 b3
 below : Below w0.heap.size w0 w3
 kept : Kept w w3 (fun k => k = gd ∨ some k = v.ownBlock)
 row : v3.ownBlock = v.ownBlock ∨ v3.ownBlock = none ∨ ∃ k, v3.ownBlock = some k ∧ w.heap.size ≤ k
 same : codeX most xs ≠ 0 → b3 = b
 box : ∃ cs, w3.heap[g]? = some (.cells cs 119 (0, 0))
 g0 : w0.heap.size ≤ g
 gd0 : w0.heap.size ≤ gd
theorem TEnd.fed {sa : Nat → Addr} {w0 w w3 w' : World} {g gd : Nat} {most : Int} {xs ys : List Int} {v v3 : Value} {b b3 : Nat} {l : List UInt8} (h : TEnd sa w0 w w3 g gd most xs ys v v3 b b3) (hL : TL w0 w3 w' g l (tcs gd (framesX most (xs ++ ys)))) : TFed sa w0 w w' g gd most xs ys v b v3 b3 := by
 obtain ⟨cs, hx⟩ := h.box
 have hl : ∀ k o, w3.heap[k]? = some o → k < w3.heap.size := fun k o e => (Array.getElem?_eq_some_iff.1 e).1
 refine ⟨⟨hL.box, h.dec.step (hL.kept.2 _ h.dec.glt ?_) (fun k hk => hL.kept.2 _ (h.dec.vlt k hk) ?_) (fun e => hL.kept.2 _ (h.dec.blt e) ?_), h.g0, h.gd0⟩, hL.below, ?_, h.row, h.same⟩
 · intro e
   by_cases hc : codeX most (xs ++ ys) = 0
   · have h1 := (h.dec.live hc).1; rw [e, hx] at h1; simp at h1
   · have h1 := (h.dec.dead hc).1; rw [e, hx] at h1; simp at h1
 · intro e
   by_cases hc : codeX most (xs ++ ys) = 0
   · obtain ⟨cs', h1⟩ := own_typed (h.dec.live hc).2 k hk; rw [e, hx] at h1; simp at h1
   · rw [(h.dec.dead hc).2.2] at hk; simp [Value.ownBlock] at hk
 · intro e'
   have h1 := (h.dec.dead e).2.1; rw [e', hx] at h1; simp at h1
 · exact (h.kept.mono fun k hk => .inr hk).then_ hL.kept fun k hk => .inl (.inl hk)
theorem tcs_snoc0 (gd : Nat) (fs : List Fr) (p : Fr) {cn sn : Nat} {pd : List Int} (ht : p.f0.f1 = ((0 : Nat) : Int)) (hc : cn = cntF 0 fs) (hs : sn = sizF 0 fs) (hp : pd = p.f1) : tcs gd (fs ++ [p]) = ((tcs gd fs).setIfInBounds 1 (.int .i64 ((cn : Int) + 1))).setIfInBounds 2 (.int .i64 ((sn : Int) + (pd.length : Int))) := by
 unfold tcs
 subst hc hs hp
 simp [cntF_snoc, sizF_snoc, ht]
theorem tcs_snoc1 (gd : Nat) (fs : List Fr) (p : Fr) {cn sn : Nat} {pd : List Int} (ht : p.f0.f1 = ((1 : Nat) : Int)) (hc : cn = cntF 1 fs) (hs : sn = sizF 1 fs) (hp : pd = p.f1) : tcs gd (fs ++ [p]) = ((tcs gd fs).setIfInBounds 3 (.int .i64 ((cn : Int) + 1))).setIfInBounds 4 (.int .i64 ((sn : Int) + (pd.length : Int))) := by
 unfold tcs
 subst hc hs hp
 simp [cntF_snoc, sizF_snoc, ht]
theorem tcs_snoc2 (gd : Nat) (fs : List Fr) (p : Fr) {cn sn : Nat} {pd : List Int} (ht : p.f0.f1 = ((2 : Nat) : Int)) (hc : cn = cntF 2 fs) (hs : sn = sizF 2 fs) (hp : pd = p.f1) : tcs gd (fs ++ [p]) = ((tcs gd fs).setIfInBounds 5 (.int .i64 ((cn : Int) + 1))).setIfInBounds 6 (.int .i64 ((sn : Int) + (pd.length : Int))) := by
 unfold tcs
 subst hc hs hp
 simp [cntF_snoc, sizF_snoc, ht]
theorem tcs_snoc3 (gd : Nat) (fs : List Fr) (p : Fr) {cn sn : Nat} {pd : List Int} (ht : p.f0.f1 = ((3 : Nat) : Int)) (hc : cn = cntF 3 fs) (hs : sn = sizF 3 fs) (hp : pd = p.f1) : tcs gd (fs ++ [p]) = ((tcs gd fs).setIfInBounds 7 (.int .i64 ((cn : Int) + 1))).setIfInBounds 8 (.int .i64 ((sn : Int) + (pd.length : Int))) := by
 unfold tcs
 subst hc hs hp
 simp [cntF_snoc, sizF_snoc, ht]
theorem tfed_dead {sa : Nat → Addr} {w0 w : World} {g gd b : Nat} {most : Int} {xs ys : List Int} {v : Value} (h : TapV sa w0 w g gd most xs v b) (hb0 : Below w0.heap.size w0 w) (hc : codeX most xs ≠ 0) : TFed sa w0 w w g gd most xs ys v b v b := by
 have e0 := app_dead (ys := ys) hc
 have e1 : framesX most (xs ++ ys) = framesX most xs := by unfold framesX; rw [e0]
 have e2 : codeX most (xs ++ ys) = codeX most xs := by unfold codeX; rw [e0]
 have e3 : stX most (xs ++ ys) = stX most xs := by unfold stX; rw [e0]
 have e4 : restX most (xs ++ ys) = restX most xs := by unfold restX; rw [e0]
 exact ⟨⟨by rw [e1]; exact h.box, ⟨by rw [e2, e4]; exact h.dec.live, by rw [e2, e3]; exact h.dec.dead⟩, h.g0, h.gd0⟩, hb0, Kept.refl w _, .inl rfl, fun _ => rfl⟩
set_option maxRecDepth 100000 in
set_option maxHeartbeats 4000000 in
theorem tfeed_any {sa : Nat → Addr} {w0 w : World} (hG : Good w0 sa) (hL : Lawful w0) (hP : Pow10 w0) (hW : Words w0) (hT : ErT w0) (g gd : Nat) (most : Int) (xs : List Int) (v : Value) (b : Nat) (hb0 : Below w0.heap.size w0 w) (hV : TapV sa w0 w g gd most xs v b) (hx : ∀ x ∈ xs, 0 ≤ x ∧ x ≤ 255) (A : Option Addr) (n c : Nat) (ys : List Int) (hB : Bs w A n c ys) (m1 : 1 ≤ most) (m2 : most ≤ 65536) (hsz : xs.length + n ≤ 1099511627776) (h28 : codeX most (xs ++ ys) = 0 ∨ inG 28 = true := by first | exact .inr rfl | assumption) :
    Calls Tryz.prog 36 #[.pointer (some ⟨g, 0, none⟩), .slice A n c] w fun e w' => ∃ v' b', e = .returned (.string ⟨(tellX most xs ys).toArray⟩) ∧ TFed sa w0 w w' g gd most xs ys v b v' b' := by
 have c0 : w.cell? ⟨g, 0, none⟩ = some (.pointer (some ⟨gd, 0, none⟩)) := cell_blk hV.box rfl
 have H := Lib.hid (err_dec hV.dec)
 have HV := Lib.hid hV
 have HB0 := Lib.hid hb0
 by_cases hc : codeX most xs = 0
 · have he : errX most xs b = .nilIface := if_pos hc
   rw [he] at H
   have hbx := hB.byt
   have hgd : g ≠ gd := fun e => by
    have h1 := (hV.dec.live hc).1
    rw [← e, hV.box] at h1
    simp at h1
   have hgv : some g ≠ v.ownBlock := fun e => by
    obtain ⟨cs, h1⟩ := own_typed (hV.dec.live hc).2 g e.symm
    rw [hV.box] at h1
    simp at h1
   have hfl := framesX_app most xs ys
   have hall := cut_all most (xs ++ ys) (fun x h => (List.mem_append.1 h).elim (hx x) (hbx x))
   have hnl := hB.len
   have hev : tellX most xs ys = tellL (newX most xs ys) ++ (if codeX most (xs ++ ys) = 0 then [] else brokenL (codeX most (xs ++ ys)) (stX most (xs ++ ys))) := if_pos hc
   obtain ⟨tl, htl⟩ : ∃ tl, tl = if codeX most (xs ++ ys) = 0 then [] else brokenL (codeX most (xs ++ ys)) (stX most (xs ++ ys)) := ⟨_, rfl⟩
   rw [hev, ← htl]
   have HTA := Lib.hid htl
   have HX := Lib.hid hx
   have HBs := Lib.hid hB
   have HG := Lib.hid hG
   have HL := Lib.hid hL
   have HP := Lib.hid hP
   have HW := Lib.hid hW
   have HT := Lib.hid hT
   have HGD := Lib.hid hgd
   have HGV := Lib.hid hgv
   have hg0 := hV.g0
   have hgd0 := hV.gd0
   -- the frames
   obtain ⟨fs0, hfs0⟩ : ∃ fs0, fs0 = framesX most xs := ⟨_, rfl⟩
   obtain ⟨fs, hfs⟩ : ∃ fs, fs = newX most xs ys := ⟨_, rfl⟩
   have hok : ∀ p ∈ fs, FOk most p := fun p hp => hall.1 p (by rw [← framesX, hfl, ← hfs]; simp [hp])
   have hlen : (flat fs0).length + (flat fs).length ≤ 1099511627776 := by
    obtain ⟨tl, h1, _⟩ := hall.2
    have h2 := congrArg List.length h1
    rw [← framesX, hfl, ← hfs, ← hfs0, flat_app, List.length_append, List.length_append, List.length_append] at h2
    omega
   have HSR := Lib.hid (show codeX most (xs ++ ys) ≠ 0 → 0 ≤ stX most (xs ++ ys) ∧ stX most (xs ++ ys) ≤ 4294967295 from fun e => by
    obtain ⟨tl, h1, _, h3⟩ := hall.2
    have h4 := (h3 e).2.2
    have h5 := D_in (ys := tl) (fun x hxt => (List.mem_append.1 (show x ∈ xs ++ ys by rw [h1]; exact List.mem_append_right _ hxt)).elim (hx x) (hbx x))
    show 0 ≤ (cut most (xs ++ ys)).2.2.2 ∧ (cut most (xs ++ ys)).2.2.2 ≤ _
    rw [← h4]
    exact ⟨h5.s0, h5.s1⟩)
   have HOk := Lib.hid hok
   have HLen := Lib.hid hlen
   have HFS := Lib.hid hfs
   have HFS0 := Lib.hid hfs0
   have HFL := Lib.hid hfl
   rw [← hfs]
   clear htl hV hb0 hG hL hP hW hT hB hx hall hfl hok hlen hfs hfs0 hgd hgv hbx hev he
   go_enter Tryz.func36, Tryz.ntmps36
   go_wp2_with fail
   refine H.out.mono ?_
   rintro e w ⟨rfl, rfl⟩
   go_wp2_with fail
   refine (feed_dec' HG.out HL.out gd most xs v b HB0.out HV.out.dec hgd0 HX.out A n c ys HBs.out m1 m2 (by have := restX_len most xs; omega)).mono ?_
   rintro e w3 ⟨fv, v3, b3, rfl, hF⟩
   have hgl := HV.out.lt
   have hbox3 : w3.heap[g]? = some (.cells (tcs gd fs0) 119 (0, 0)) := by
    rw [hF.kept.2 g hgl (fun e => e.elim HGD.out HGV.out), HFS0.out]; exact HV.out.box
   have hend : TEnd sa w0 w w3 g gd most xs ys v v3 b b3 := ⟨hF.dec, hF.below, hF.kept, hF.row, hF.same, ⟨_, hbox3⟩, hg0, hgd0⟩
   have hN := hF.frames
   rw [← HFS.out] at hN
   obtain ⟨Af, cf, rfl, hcf, _⟩ := Kd.N_reads hN
   have h03 := hF.below.size
   have hw3 := hF.kept.1
   have HE := Lib.hid hend
   have HN := Lib.hid hN
   have HX3 := Lib.hid hbox3
   have HB3 := Lib.hid hF.below
   have HEV := Lib.hid hF.dec.ev
   obtain ⟨ev, hev⟩ : ∃ ev, ev = errX most (xs ++ ys) b3 := ⟨_, rfl⟩
   rw [← hev] at HEV ⊢
   have HEX := Lib.hid hev
   have hfl : fs.length ≤ 1099511627776 := by
    have h1 := flat_cnt fs
    have := HLen.out
    omega
   clear hev hF hend hN hbox3 c0 H
   go_wp2_with fail
   go_loopw [38] (fun jj wr => ∃ j : Nat, jj = .int .i64 j ∧ j ≤ fs.length ∧ Hid (TL w0 w3 wr g (tellL (fs.take j)) (tcs gd (fs0 ++ fs.take j)))) (fun jj _ => fs.length - (intOf jj).toNat)
   case atStart => exact ⟨0, rfl, by omega, Lib.hid ⟨HB3.out.alloc h03 _, (Kept.refl w3 _).alloc _, bldF_new w3, by rw [List.take_zero, List.append_nil]; exact keepB ba_ HX3.out⟩⟩
   case round =>
    obtain ⟨j, rfl, hj, HR⟩ := hrel
    by_cases hlt : j < fs.length
    · have hd1 : decide ((j : Int) < fs.length) = true := by simp; omega
      have hk0 : (0 : Int) ≤ (j : Int) := by omega
      have hk1 : (j : Int) < (fs.length : Int) := by omega
      have HFr := Lib.hid (Kd.F_step (Kd.N_F HN.out) fun k hk hl => HR.out.kept.2 k hl (fun e => by have := hk.1; omega))
      obtain ⟨p, hp⟩ : ∃ p, p = rd_T28 fs j := ⟨_, rfl⟩
      obtain ⟨a, A5, c5, rfl, a0, a1, a2, a3, a4, a5, al, aF⟩ := at_F HFr.out j hk0 hk1
      rw [← hp] at a0 a1 a2 a3 a4 a5 al aF
      simp only [Int.toNat_natCast] at a0 a1 a2 a3 a4 a5
      have hpj : p = fs[j] := by
       rw [hp]; unfold rd_T28
       rw [Int.toNat_natCast, List.getD_eq_getElem?_getD, List.getElem?_eq_getElem hlt]
       rfl
      have hpo := HOk.out p (by rw [hpj]; exact List.getElem_mem hlt)
      have hts : fs.take (j + 1) = fs.take j ++ [p] := by rw [hpj]; exact List.take_succ_eq_append_getElem hlt
      have hb1 := tellL_len (fs.take j ++ [p]) (fun q hq => HOk.out q (by rw [← hts] at hq; exact List.mem_of_mem_take hq))
      have hb2 : (flat (fs.take j ++ [p])).length ≤ (flat fs).length := by
       rw [← hts]
       conv => rhs; rw [← List.take_append_drop (j + 1) fs, flat_app, List.length_append]
       omega
      have hb3 : (flat (fs0 ++ fs.take j ++ [p])).length ≤ 1099511627776 := by
       rw [List.append_assoc, flat_app, List.length_append]; have := HLen.out; omega
      have hcn : ∀ k, cntF k (fs0 ++ fs.take j) + 1 ≤ 1099511627776 := fun k => by
       have h1 := cntF_le k (fs0 ++ fs.take j)
       have h2 := flat_cnt (fs0 ++ fs.take j)
       rw [flat_app, List.length_append, flat_one, encF_len] at hb3
       omega
      have hsn : ∀ k, sizF k (fs0 ++ fs.take j) + p.f1.length ≤ 1099511627776 := fun k => by
       have h1 := sizF_le k (fs0 ++ fs.take j)
       rw [flat_app, List.length_append, flat_one, encF_len] at hb3
       omega
      have hbd := fok_bd hpo
      have hsz := hpo.sz
      have hRd := F_rd aF hpo.byt
      have htl : (tellL (fs.take j)).length + (lineF p).length + 1 ≤ 44000000000000 := by
       rw [tellL_snoc] at hb1
       simp only [List.length_append, List.length_cons, List.length_nil] at hb1
       have := HLen.out
       omega
      have hty := fok_ty hpo
      have hI := hpo.hd
      obtain ⟨ver, hver⟩ : ∃ ver : Nat, p.f0.f0 = ver := ⟨p.f0.f0.toNat, by have := hI.v0; omega⟩
      obtain ⟨ty, htyn⟩ : ∃ ty : Nat, p.f0.f1 = ty := ⟨p.f0.f1.toNat, by have := hI.t0; omega⟩
      obtain ⟨fl, hfln⟩ : ∃ fl : Nat, p.f0.f2 = fl := ⟨p.f0.f2.toNat, by have := hI.f0; omega⟩
      obtain ⟨st, hstn⟩ : ∃ st : Nat, p.f0.f3 = st := ⟨p.f0.f3.toNat, by have := hI.s0; omega⟩
      obtain ⟨ln, hlnn⟩ : ∃ ln : Nat, p.f0.f4 = ln := ⟨p.f0.f4.toNat, by have := hI.l0; omega⟩
      obtain ⟨pd, hpd⟩ : ∃ pd, pd = p.f1 := ⟨_, rfl⟩
      have hline : lineF p = lineB ⟨ver, ty, fl, st, ln⟩ pd := by unfold lineF hdF; rw [hver, htyn, hfln, hstn, hlnn, hpd]; rfl
      rw [hver] at a0 hbd
      rw [htyn] at a1 hbd hsz hty
      rw [hfln] at a2 hbd
      rw [hstn] at a3 hbd
      rw [hlnn] at a4 hbd hsz
      rw [← hpd] at a5 al hsn hsz hRd
      rw [hline] at htl
      simp only [Int.toNat_natCast] at hbd
      obtain ⟨d0, d1, d2, d3, d4⟩ := hbd
      have HTS := Lib.hid hts
      have HP0 := Lib.hid hpd
      have HTY := Lib.hid htyn
      have HSZ := Lib.hid hsz
      have HRD := Lib.hid hRd
      have HLI := Lib.hid hline
      have HTL := Lib.hid htl
      have HCN := Lib.hid hcn
      have HSN := Lib.hid hsn
      have HY := Lib.hid hty
      clear hp hpj hpo hts hb1 hb2 hb3 hcn hsn hsz hRd htl hty hI hver htyn hfln hstn hlnn hpd hline aF
      go_wp2_with fail
      obtain ⟨wx, hwx⟩ : ∃ wx, wx = wr.alloc (.cells #[.int .u8 ver, .int .u8 ty, .int .u16 fl, .int .u32 st, .int .u32 ln, .slice A5 pd.length c5] 28) := ⟨_, rfl⟩
      have hbx : Below wr.heap.size wr wx := by rw [hwx]; exact (Below.refl _ _).alloc (Nat.le_refl _) _
      have hh : wx.heap[wr.heap.size]? = some (.cells #[.int .u8 ver, .int .u8 ty, .int .u16 fl, .int .u32 st, .int .u32 ln, .slice A5 pd.length c5] 28 (0, 0)) := by rw [hwx]; exact alloc_blk _ _
      rw [← hwx]
      have HBX := Lib.hid hbx
      have HH := Lib.hid hh
      clear hbx hh hwx a0 a1 a2 a3 a4 a5
      have hbw := belowT HR.out.below HBX.out
      refine (line_any ver ty fl st ln A5 pd.length c5 pd wx (HG.out.below hbw) (HP.out.below hbw) (HW.out.below hbw) (HRD.out.next HBX.out) d0 d1 d2 d3 d4).mono ?_
      rintro e w4 ⟨rfl, hb4⟩
      rw [if_pos HSZ.out]
      have HR4 := Lib.hid (HR.out.next (belowT HBX.out hb4))
      have hh4 := keepB hb4 HH.out
      have hne : (some wr.heap.size : Option Nat) ≠ some w3.heap.size := fun e => by
       have h1 := HR.out.bld.lt
       injection e with e
       omega
      have hg3 : g < w3.heap.size := by omega
      have HN4 := Lib.hid hh4
      have HNE := Lib.hid hne
      clear hb4 hh4 hbw hne
      go_wp2_with fail
      refine (bldF_str ⟨(lineB ⟨ver, ty, fl, st, ln⟩ pd).toArray⟩ HR4.out.bld (by have := HTL.out; show (tellL (fs.take j)).length + (lineB ⟨ver, ty, fl, st, ln⟩ pd).toArray.size ≤ _; rw [List.size_toArray]; omega) HR4.out.kept.1).mono ?_
      rintro e w5 ⟨rfl, hl5, hb5, ho5⟩
      have HR5 := Lib.hid (HR4.out.put h03 hg3 hb5 hl5)
      have HN5 := Lib.hid (ho5 _ _ HN4.out HNE.out (fun c fz e => by simp at e))
      clear hl5 hb5 ho5
      go_wp2_with fail
      refine (bldF_byte 10 HR5.out.bld (by have := HTL.out; rw [List.length_append]; show (tellL (fs.take j)).length + (lineB ⟨ver, ty, fl, st, ln⟩ pd).length + 1 ≤ _; omega) HR5.out.kept.1 rfl).mono ?_
      rintro e w6 ⟨rfl, hl6, hb6, ho6⟩
      have HR6 := Lib.hid (HR5.out.put h03 hg3 hb6 hl6)
      have hh6 := ho6 _ _ HN5.out HNE.out (fun c fz e => by simp at e)
      clear hl6 hb6 ho6
      obtain ⟨l6, hl6⟩ : ∃ l6, l6 = tellL (fs.take j) ++ (lineB ⟨ver, ty, fl, st, ln⟩ pd) ++ [10] := ⟨_, rfl⟩
      replace HR6 : Hid (TL w0 w3 w6 g l6 (tcs gd (fs0 ++ fs.take j))) := by rw [hl6]; exact HR6
      have HL6 := Lib.hid (show l6 = tellL (fs.take (j + 1)) by rw [hl6, HTS.out, tellL_snoc, HLI.out])
      clear hl6
      have h4 : ty = 0 ∨ ty = 1 ∨ ty = 2 ∨ ty = 3 := by have := HY.out; omega
      obtain rfl | rfl | rfl | rfl := h4
      · have e1 : w6.cell? ⟨wr.heap.size, 1, none⟩ = some (.int .u8 0) := cell_blk hh6 rfl
        have hbit : bits .and .u8 0 3 = 0 := by decide
        go_wp2_with fail
        refine start_ (n := 9) (S := fun w' => w'.cell? ⟨wr.heap.size, 1, none⟩ = some (.int .u8 0) ∧ Hid (Below w6.heap.size w6 w')) (ds := []) (bM 9 0) (by kernel_rfl) rfl rfl (⟨e1, Lib.hid (Below.refl _ _).drew⟩) (fun hHeld => ?_)
        refine pu_ 0 50 ?_ (bM 9 1) rfl rfl (by kernel_rfl) (.inl ⟨by rfl, ?_⟩) ?_ ?_ ?_; rotate_left
        · intro w'; go_simp; with_reducible rfl
        rotate_left
        · simp only [pA_, i64_w]; rfl
        refine pu_ 1 51 ?_ (bM 9 3) rfl rfl (by kernel_rfl) (.inl ⟨by rfl, ?_⟩) ?_ ?_ ?_; rotate_left
        · intro w'; go_simp; with_reducible rfl
        rotate_left
        · simp only [pA_, i64_w]; rfl
        refine pu_ 2 52 ?_ (bM 9 7) rfl rfl (by kernel_rfl) (.inl ⟨by rfl, ?_⟩) ?_ ?_ ?_; rotate_left
        · intro w'; go_simp; with_reducible rfl
        rotate_left
        · simp only [pA_, i64_w]; rfl
        refine pu_ 5 55 ?_ (bM 9 39) rfl rfl (by kernel_rfl) (.inl ⟨by rfl, ?_⟩) ?_ ?_ ?_; rotate_left
        · intro w'; go_simp; with_reducible rfl
        rotate_left
        · simp only [pA_, i64_w]; rfl
        refine pu_ 6 56 ?_ (bM 9 103) rfl rfl (by kernel_rfl) (.inl ⟨by rfl, ?_⟩) ?_ ?_ ?_; rotate_left
        · intro w'; go_simp; with_reducible rfl
        rotate_left
        · simp only [pA_, i64_w]; rfl
        refine tk_ 3 53 ?_ (bM 9 111) rfl rfl (by kernel_rfl) (.inl ⟨by rfl, ?_⟩) hHeld ?_ ?_ ?_; rotate_left
        · rintro w' ⟨s0, s1⟩; go_simp; with_reducible rfl
        rotate_left
        · simp only [pA_, i64_w]; rfl
        refine pu_ 4 54 ?_ (bM 9 127) rfl rfl (by kernel_rfl) (.inl ⟨by rfl, ?_⟩) ?_ ?_ ?_; rotate_left
        · intro w'; go_simp; with_reducible rfl
        rotate_left
        · simp only [pA_, i64_w]; rfl
        refine pu_ 7 57 ?_ (bM 9 255) rfl rfl (by kernel_rfl) (.inl ⟨by rfl, ?_⟩) ?_ ?_ ?_; rotate_left
        · intro w'; go_simp; with_reducible rfl
        rotate_left
        · simp only [pA_, i64_w]; rfl
        refine pu_ 8 12 ?_ (bM 9 511) rfl rfl (by kernel_rfl) (.inl ⟨by rfl, ?_⟩) ?_ ?_ ?_; rotate_left
        · intro w'; go_simp; with_reducible rfl
        rotate_left
        · simp only [pA_, i64_w]; rfl
        refine done_ (by kernel_rfl) ?_
        obtain ⟨w7, hw7⟩ : ∃ w7, w7 = w6.drew := ⟨_, rfl⟩
        have hb7 : Below w6.heap.size w6 w7 := by rw [hw7]; exact (Below.refl _ _).drew
        have HR7 := Lib.hid (HR6.out.next hb7)
        have hh7 := keepB hb7 hh6
        rw [← hw7]
        clear hw7 hb7
        obtain ⟨cn, hcn⟩ : ∃ cn, cn = cntF 0 (fs0 ++ fs.take j) := ⟨_, rfl⟩
        obtain ⟨sn, hsn⟩ : ∃ sn, sn = sizF 0 (fs0 ++ fs.take j) := ⟨_, rfl⟩
        have q0 : w7.cell? ⟨g, 1, none⟩ = some (.int .i64 cn) := by rw [hcn]; exact cell_blk HR7.out.box rfl
        have r0 : w7.frozen? ⟨g, 1, none⟩ = false := free_blk HR7.out.box
        have hcb : cn + 1 ≤ 1099511627776 := by rw [hcn]; exact HCN.out 0
        have hsb : sn + pd.length ≤ 1099511627776 := by rw [hsn]; exact HSN.out 0
        have hw1 : IntKind.i64.wrap ((cn : Int) + 1) = (cn : Int) + 1 := by rw [IntKind.wrap_i64]; omega
        have hw2 : IntKind.i64.wrap ((sn : Int) + (pd.length : Int)) = (sn : Int) + (pd.length : Int) := by rw [IntKind.wrap_i64]; omega
        have HC0 := Lib.hid hcn
        have HS0 := Lib.hid hsn
        have HN7 := Lib.hid hh7
        clear hHeld hh7 hcn hsn e1 hbit hh6 HR6 HR4 HR5 HN4 HN5
        go_wp2_with fail
        obtain ⟨w8, hw8⟩ : ∃ w8, w8 = w7.setCell ⟨g, 1, none⟩ (.int .i64 ((cn : Int) + 1)) := ⟨_, rfl⟩
        have HR8 := Lib.hid (HR7.out.set (j := 1) hg0 hg3 (.int .i64 ((cn : Int) + 1)))
        have hh8 := (show w8.heap[wr.heap.size]? = w7.heap[wr.heap.size]? by rw [hw8]; exact set_other _ (by have := HR.out.kept.1; omega)).trans HN7.out
        rw [← hw8] at HR8 ⊢
        have q0 : w8.cell? ⟨g, 2, none⟩ = some (.int .i64 sn) := by rw [HS0.out]; exact cell_blk HR8.out.box rfl
        have r0 : w8.frozen? ⟨g, 2, none⟩ = false := free_blk HR8.out.box
        have e5 : w8.cell? ⟨wr.heap.size, 5, none⟩ = some (.slice A5 pd.length c5) := cell_blk hh8 rfl
        clear hw8 hh8 HR7 HN7
        refine start_ (n := 11) (S := fun w' => w'.cell? ⟨g, 2, none⟩ = some (.int .i64 sn) ∧ w'.frozen? ⟨g, 2, none⟩ = false ∧ w'.cell? ⟨wr.heap.size, 5, none⟩ = some (.slice A5 pd.length c5)) (ds := [10]) (bM 11 0) (by kernel_rfl) rfl rfl (⟨q0, r0, e5⟩) (fun hHeld => ?_)
        refine pu_ 0 65 ?_ (bM 11 1) rfl rfl (by kernel_rfl) (.inl ⟨by rfl, ?_⟩) ?_ ?_ ?_; rotate_left
        · intro w'; go_simp; with_reducible rfl
        rotate_left
        · simp only [pA_, i64_w]; rfl
        refine pu_ 1 66 ?_ (bM 11 3) rfl rfl (by kernel_rfl) (.inl ⟨by rfl, ?_⟩) ?_ ?_ ?_; rotate_left
        · intro w'; go_simp; with_reducible rfl
        rotate_left
        · simp only [pA_, i64_w]; rfl
        refine pu_ 2 67 ?_ (bM 11 7) rfl rfl (by kernel_rfl) (.inl ⟨by rfl, ?_⟩) ?_ ?_ ?_; rotate_left
        · intro w'; go_simp; with_reducible rfl
        rotate_left
        · simp only [pA_, i64_w]; rfl
        refine pu_ 4 69 ?_ (bM 11 23) rfl rfl (by kernel_rfl) (.inl ⟨by rfl, ?_⟩) ?_ ?_ ?_; rotate_left
        · intro w'; go_simp; with_reducible rfl
        rotate_left
        · simp only [pA_, i64_w]; rfl
        refine tk_ 3 68 ?_ (bM 11 31) rfl rfl (by kernel_rfl) (.inl ⟨by rfl, ?_⟩) hHeld ?_ ?_ ?_; rotate_left
        · rintro w' ⟨s0, s1, s2⟩; go_simp; with_reducible rfl
        rotate_left
        · simp only [pA_, i64_w]; rfl
        refine tk_ 5 70 ?_ (bM 11 63) rfl rfl (by kernel_rfl) (.inl ⟨by rfl, ?_⟩) hHeld ?_ ?_ ?_; rotate_left
        · rintro w' ⟨s0, s1, s2⟩; go_simp; with_reducible rfl
        rotate_left
        · simp only [pA_, i64_w]; rfl
        refine pu_ 6 71 ?_ (bM 11 127) rfl rfl (by kernel_rfl) (.inl ⟨by rfl, ?_⟩) ?_ ?_ ?_; rotate_left
        · intro w'; go_simp; with_reducible rfl
        rotate_left
        · simp only [pA_, i64_w]; rfl
        refine pu_ 7 72 ?_ (bM 11 255) rfl rfl (by kernel_rfl) (.inl ⟨by rfl, ?_⟩) ?_ ?_ ?_; rotate_left
        · intro w'; go_simp; with_reducible rfl
        rotate_left
        · simp only [pA_, i64_w]; rfl
        refine pu_ 8 73 ?_ (bM 11 511) rfl rfl (by kernel_rfl) (.inl ⟨by rfl, ?_⟩) ?_ ?_ ?_; rotate_left
        · intro w'; go_simp; with_reducible rfl
        rotate_left
        · simp only [pA_, i64_w]; rfl
        refine pu_ 9 74 ?_ (bM 11 1023) rfl rfl (by kernel_rfl) (.inl ⟨by rfl, ?_⟩) ?_ ?_ ?_; rotate_left
        · intro w'; go_simp; with_reducible rfl
        rotate_left
        · simp only [pA_, i64_w]; rfl
        refine last_ (i := 10) (N := none) (bM 11 2047) rfl rfl (by kernel_rfl) (by decide) (fun K hK => ?_)
        refine skip_ (w1 := ?_) (by rfl) rfl ?_ ?_
        rotate_left
        · go_simp
          rfl
        refine hK.out _ _ ?_
        clear hK K
        refine done_ (by kernel_rfl) ?_
        have HR9 := Lib.hid (HR8.out.set (j := 2) hg0 hg3 (.int .i64 ((sn : Int) + (pd.length : Int)))).drew
        go_wp2_with fail
        go_roundw
        case rel => exact ⟨j + 1, by go_num, by omega, by rw [← HL6.out, HTS.out, ← List.append_assoc]; rw [show tcs gd (fs0 ++ fs.take j ++ [p]) = _ from tcs_snoc0 gd (fs0 ++ fs.take j) p HTY.out HC0.out HS0.out HP0.out]; exact Lib.hid HR9⟩
        case measure => simp [intOf]; omega
      · have e1 : w6.cell? ⟨wr.heap.size, 1, none⟩ = some (.int .u8 1) := cell_blk hh6 rfl
        have hbit : bits .and .u8 1 3 = 1 := by decide
        go_wp2_with fail
        refine start_ (n := 9) (S := fun w' => w'.cell? ⟨wr.heap.size, 1, none⟩ = some (.int .u8 1) ∧ Hid (Below w6.heap.size w6 w')) (ds := []) (bM 9 0) (by kernel_rfl) rfl rfl (⟨e1, Lib.hid (Below.refl _ _).drew⟩) (fun hHeld => ?_)
        refine pu_ 0 50 ?_ (bM 9 1) rfl rfl (by kernel_rfl) (.inl ⟨by rfl, ?_⟩) ?_ ?_ ?_; rotate_left
        · intro w'; go_simp; with_reducible rfl
        rotate_left
        · simp only [pA_, i64_w]; rfl
        refine pu_ 1 51 ?_ (bM 9 3) rfl rfl (by kernel_rfl) (.inl ⟨by rfl, ?_⟩) ?_ ?_ ?_; rotate_left
        · intro w'; go_simp; with_reducible rfl
        rotate_left
        · simp only [pA_, i64_w]; rfl
        refine pu_ 2 52 ?_ (bM 9 7) rfl rfl (by kernel_rfl) (.inl ⟨by rfl, ?_⟩) ?_ ?_ ?_; rotate_left
        · intro w'; go_simp; with_reducible rfl
        rotate_left
        · simp only [pA_, i64_w]; rfl
        refine pu_ 5 55 ?_ (bM 9 39) rfl rfl (by kernel_rfl) (.inl ⟨by rfl, ?_⟩) ?_ ?_ ?_; rotate_left
        · intro w'; go_simp; with_reducible rfl
        rotate_left
        · simp only [pA_, i64_w]; rfl
        refine pu_ 6 56 ?_ (bM 9 103) rfl rfl (by kernel_rfl) (.inl ⟨by rfl, ?_⟩) ?_ ?_ ?_; rotate_left
        · intro w'; go_simp; with_reducible rfl
        rotate_left
        · simp only [pA_, i64_w]; rfl
        refine tk_ 3 53 ?_ (bM 9 111) rfl rfl (by kernel_rfl) (.inl ⟨by rfl, ?_⟩) hHeld ?_ ?_ ?_; rotate_left
        · rintro w' ⟨s0, s1⟩; go_simp; with_reducible rfl
        rotate_left
        · simp only [pA_, i64_w]; rfl
        refine pu_ 4 54 ?_ (bM 9 127) rfl rfl (by kernel_rfl) (.inl ⟨by rfl, ?_⟩) ?_ ?_ ?_; rotate_left
        · intro w'; go_simp; with_reducible rfl
        rotate_left
        · simp only [pA_, i64_w]; rfl
        refine pu_ 7 57 ?_ (bM 9 255) rfl rfl (by kernel_rfl) (.inl ⟨by rfl, ?_⟩) ?_ ?_ ?_; rotate_left
        · intro w'; go_simp; with_reducible rfl
        rotate_left
        · simp only [pA_, i64_w]; rfl
        refine pu_ 8 12 ?_ (bM 9 511) rfl rfl (by kernel_rfl) (.inl ⟨by rfl, ?_⟩) ?_ ?_ ?_; rotate_left
        · intro w'; go_simp; with_reducible rfl
        rotate_left
        · simp only [pA_, i64_w]; rfl
        refine done_ (by kernel_rfl) ?_
        obtain ⟨w7, hw7⟩ : ∃ w7, w7 = w6.drew := ⟨_, rfl⟩
        have hb7 : Below w6.heap.size w6 w7 := by rw [hw7]; exact (Below.refl _ _).drew
        have HR7 := Lib.hid (HR6.out.next hb7)
        have hh7 := keepB hb7 hh6
        rw [← hw7]
        clear hw7 hb7
        obtain ⟨cn, hcn⟩ : ∃ cn, cn = cntF 1 (fs0 ++ fs.take j) := ⟨_, rfl⟩
        obtain ⟨sn, hsn⟩ : ∃ sn, sn = sizF 1 (fs0 ++ fs.take j) := ⟨_, rfl⟩
        have q0 : w7.cell? ⟨g, 3, none⟩ = some (.int .i64 cn) := by rw [hcn]; exact cell_blk HR7.out.box rfl
        have r0 : w7.frozen? ⟨g, 3, none⟩ = false := free_blk HR7.out.box
        have hcb : cn + 1 ≤ 1099511627776 := by rw [hcn]; exact HCN.out 1
        have hsb : sn + pd.length ≤ 1099511627776 := by rw [hsn]; exact HSN.out 1
        have hw1 : IntKind.i64.wrap ((cn : Int) + 1) = (cn : Int) + 1 := by rw [IntKind.wrap_i64]; omega
        have hw2 : IntKind.i64.wrap ((sn : Int) + (pd.length : Int)) = (sn : Int) + (pd.length : Int) := by rw [IntKind.wrap_i64]; omega
        have HC0 := Lib.hid hcn
        have HS0 := Lib.hid hsn
        have HN7 := Lib.hid hh7
        clear hHeld hh7 hcn hsn e1 hbit hh6 HR6 HR4 HR5 HN4 HN5
        go_wp2_with fail
        obtain ⟨w8, hw8⟩ : ∃ w8, w8 = w7.setCell ⟨g, 3, none⟩ (.int .i64 ((cn : Int) + 1)) := ⟨_, rfl⟩
        have HR8 := Lib.hid (HR7.out.set (j := 3) hg0 hg3 (.int .i64 ((cn : Int) + 1)))
        have hh8 := (show w8.heap[wr.heap.size]? = w7.heap[wr.heap.size]? by rw [hw8]; exact set_other _ (by have := HR.out.kept.1; omega)).trans HN7.out
        rw [← hw8] at HR8 ⊢
        have q0 : w8.cell? ⟨g, 4, none⟩ = some (.int .i64 sn) := by rw [HS0.out]; exact cell_blk HR8.out.box rfl
        have r0 : w8.frozen? ⟨g, 4, none⟩ = false := free_blk HR8.out.box
        have e5 : w8.cell? ⟨wr.heap.size, 5, none⟩ = some (.slice A5 pd.length c5) := cell_blk hh8 rfl
        clear hw8 hh8 HR7 HN7
        refine start_ (n := 11) (S := fun w' => w'.cell? ⟨g, 4, none⟩ = some (.int .i64 sn) ∧ w'.frozen? ⟨g, 4, none⟩ = false ∧ w'.cell? ⟨wr.heap.size, 5, none⟩ = some (.slice A5 pd.length c5)) (ds := [10]) (bM 11 0) (by kernel_rfl) rfl rfl (⟨q0, r0, e5⟩) (fun hHeld => ?_)
        refine pu_ 0 65 ?_ (bM 11 1) rfl rfl (by kernel_rfl) (.inl ⟨by rfl, ?_⟩) ?_ ?_ ?_; rotate_left
        · intro w'; go_simp; with_reducible rfl
        rotate_left
        · simp only [pA_, i64_w]; rfl
        refine pu_ 1 66 ?_ (bM 11 3) rfl rfl (by kernel_rfl) (.inl ⟨by rfl, ?_⟩) ?_ ?_ ?_; rotate_left
        · intro w'; go_simp; with_reducible rfl
        rotate_left
        · simp only [pA_, i64_w]; rfl
        refine pu_ 2 67 ?_ (bM 11 7) rfl rfl (by kernel_rfl) (.inl ⟨by rfl, ?_⟩) ?_ ?_ ?_; rotate_left
        · intro w'; go_simp; with_reducible rfl
        rotate_left
        · simp only [pA_, i64_w]; rfl
        refine pu_ 4 69 ?_ (bM 11 23) rfl rfl (by kernel_rfl) (.inl ⟨by rfl, ?_⟩) ?_ ?_ ?_; rotate_left
        · intro w'; go_simp; with_reducible rfl
        rotate_left
        · simp only [pA_, i64_w]; rfl
        refine tk_ 3 68 ?_ (bM 11 31) rfl rfl (by kernel_rfl) (.inl ⟨by rfl, ?_⟩) hHeld ?_ ?_ ?_; rotate_left
        · rintro w' ⟨s0, s1, s2⟩; go_simp; with_reducible rfl
        rotate_left
        · simp only [pA_, i64_w]; rfl
        refine tk_ 5 70 ?_ (bM 11 63) rfl rfl (by kernel_rfl) (.inl ⟨by rfl, ?_⟩) hHeld ?_ ?_ ?_; rotate_left
        · rintro w' ⟨s0, s1, s2⟩; go_simp; with_reducible rfl
        rotate_left
        · simp only [pA_, i64_w]; rfl
        refine pu_ 6 71 ?_ (bM 11 127) rfl rfl (by kernel_rfl) (.inl ⟨by rfl, ?_⟩) ?_ ?_ ?_; rotate_left
        · intro w'; go_simp; with_reducible rfl
        rotate_left
        · simp only [pA_, i64_w]; rfl
        refine pu_ 7 72 ?_ (bM 11 255) rfl rfl (by kernel_rfl) (.inl ⟨by rfl, ?_⟩) ?_ ?_ ?_; rotate_left
        · intro w'; go_simp; with_reducible rfl
        rotate_left
        · simp only [pA_, i64_w]; rfl
        refine pu_ 8 73 ?_ (bM 11 511) rfl rfl (by kernel_rfl) (.inl ⟨by rfl, ?_⟩) ?_ ?_ ?_; rotate_left
        · intro w'; go_simp; with_reducible rfl
        rotate_left
        · simp only [pA_, i64_w]; rfl
        refine pu_ 9 74 ?_ (bM 11 1023) rfl rfl (by kernel_rfl) (.inl ⟨by rfl, ?_⟩) ?_ ?_ ?_; rotate_left
        · intro w'; go_simp; with_reducible rfl
        rotate_left
        · simp only [pA_, i64_w]; rfl
        refine last_ (i := 10) (N := none) (bM 11 2047) rfl rfl (by kernel_rfl) (by decide) (fun K hK => ?_)
        refine skip_ (w1 := ?_) (by rfl) rfl ?_ ?_
        rotate_left
        · go_simp
          rfl
        refine hK.out _ _ ?_
        clear hK K
        refine done_ (by kernel_rfl) ?_
        have HR9 := Lib.hid (HR8.out.set (j := 4) hg0 hg3 (.int .i64 ((sn : Int) + (pd.length : Int)))).drew
        go_wp2_with fail
        go_roundw
        case rel => exact ⟨j + 1, by go_num, by omega, by rw [← HL6.out, HTS.out, ← List.append_assoc]; rw [show tcs gd (fs0 ++ fs.take j ++ [p]) = _ from tcs_snoc1 gd (fs0 ++ fs.take j) p HTY.out HC0.out HS0.out HP0.out]; exact Lib.hid HR9⟩
        case measure => simp [intOf]; omega
      · have e1 : w6.cell? ⟨wr.heap.size, 1, none⟩ = some (.int .u8 2) := cell_blk hh6 rfl
        have hbit : bits .and .u8 2 3 = 2 := by decide
        go_wp2_with fail
        refine start_ (n := 9) (S := fun w' => w'.cell? ⟨wr.heap.size, 1, none⟩ = some (.int .u8 2) ∧ Hid (Below w6.heap.size w6 w')) (ds := []) (bM 9 0) (by kernel_rfl) rfl rfl (⟨e1, Lib.hid (Below.refl _ _).drew⟩) (fun hHeld => ?_)
        refine pu_ 0 50 ?_ (bM 9 1) rfl rfl (by kernel_rfl) (.inl ⟨by rfl, ?_⟩) ?_ ?_ ?_; rotate_left
        · intro w'; go_simp; with_reducible rfl
        rotate_left
        · simp only [pA_, i64_w]; rfl
        refine pu_ 1 51 ?_ (bM 9 3) rfl rfl (by kernel_rfl) (.inl ⟨by rfl, ?_⟩) ?_ ?_ ?_; rotate_left
        · intro w'; go_simp; with_reducible rfl
        rotate_left
        · simp only [pA_, i64_w]; rfl
        refine pu_ 2 52 ?_ (bM 9 7) rfl rfl (by kernel_rfl) (.inl ⟨by rfl, ?_⟩) ?_ ?_ ?_; rotate_left
        · intro w'; go_simp; with_reducible rfl
        rotate_left
        · simp only [pA_, i64_w]; rfl
        refine pu_ 5 55 ?_ (bM 9 39) rfl rfl (by kernel_rfl) (.inl ⟨by rfl, ?_⟩) ?_ ?_ ?_; rotate_left
        · intro w'; go_simp; with_reducible rfl
        rotate_left
        · simp only [pA_, i64_w]; rfl
        refine pu_ 6 56 ?_ (bM 9 103) rfl rfl (by kernel_rfl) (.inl ⟨by rfl, ?_⟩) ?_ ?_ ?_; rotate_left
        · intro w'; go_simp; with_reducible rfl
        rotate_left
        · simp only [pA_, i64_w]; rfl
        refine tk_ 3 53 ?_ (bM 9 111) rfl rfl (by kernel_rfl) (.inl ⟨by rfl, ?_⟩) hHeld ?_ ?_ ?_; rotate_left
        · rintro w' ⟨s0, s1⟩; go_simp; with_reducible rfl
        rotate_left
        · simp only [pA_, i64_w]; rfl
        refine pu_ 4 54 ?_ (bM 9 127) rfl rfl (by kernel_rfl) (.inl ⟨by rfl, ?_⟩) ?_ ?_ ?_; rotate_left
        · intro w'; go_simp; with_reducible rfl
        rotate_left
        · simp only [pA_, i64_w]; rfl
        refine pu_ 7 57 ?_ (bM 9 255) rfl rfl (by kernel_rfl) (.inl ⟨by rfl, ?_⟩) ?_ ?_ ?_; rotate_left
        · intro w'; go_simp; with_reducible rfl
        rotate_left
        · simp only [pA_, i64_w]; rfl
        refine pu_ 8 12 ?_ (bM 9 511) rfl rfl (by kernel_rfl) (.inl ⟨by rfl, ?_⟩) ?_ ?_ ?_; rotate_left
        · intro w'; go_simp; with_reducible rfl
        rotate_left
        · simp only [pA_, i64_w]; rfl
        refine done_ (by kernel_rfl) ?_
        obtain ⟨w7, hw7⟩ : ∃ w7, w7 = w6.drew := ⟨_, rfl⟩
        have hb7 : Below w6.heap.size w6 w7 := by rw [hw7]; exact (Below.refl _ _).drew
        have HR7 := Lib.hid (HR6.out.next hb7)
        have hh7 := keepB hb7 hh6
        rw [← hw7]
        clear hw7 hb7
        obtain ⟨cn, hcn⟩ : ∃ cn, cn = cntF 2 (fs0 ++ fs.take j) := ⟨_, rfl⟩
        obtain ⟨sn, hsn⟩ : ∃ sn, sn = sizF 2 (fs0 ++ fs.take j) := ⟨_, rfl⟩
        have q0 : w7.cell? ⟨g, 5, none⟩ = some (.int .i64 cn) := by rw [hcn]; exact cell_blk HR7.out.box rfl
        have r0 : w7.frozen? ⟨g, 5, none⟩ = false := free_blk HR7.out.box
        have hcb : cn + 1 ≤ 1099511627776 := by rw [hcn]; exact HCN.out 2
        have hsb : sn + pd.length ≤ 1099511627776 := by rw [hsn]; exact HSN.out 2
        have hw1 : IntKind.i64.wrap ((cn : Int) + 1) = (cn : Int) + 1 := by rw [IntKind.wrap_i64]; omega
        have hw2 : IntKind.i64.wrap ((sn : Int) + (pd.length : Int)) = (sn : Int) + (pd.length : Int) := by rw [IntKind.wrap_i64]; omega
        have HC0 := Lib.hid hcn
        have HS0 := Lib.hid hsn
        have HN7 := Lib.hid hh7
        clear hHeld hh7 hcn hsn e1 hbit hh6 HR6 HR4 HR5 HN4 HN5
        go_wp2_with fail
        obtain ⟨w8, hw8⟩ : ∃ w8, w8 = w7.setCell ⟨g, 5, none⟩ (.int .i64 ((cn : Int) + 1)) := ⟨_, rfl⟩
        have HR8 := Lib.hid (HR7.out.set (j := 5) hg0 hg3 (.int .i64 ((cn : Int) + 1)))
        have hh8 := (show w8.heap[wr.heap.size]? = w7.heap[wr.heap.size]? by rw [hw8]; exact set_other _ (by have := HR.out.kept.1; omega)).trans HN7.out
        rw [← hw8] at HR8 ⊢
        have q0 : w8.cell? ⟨g, 6, none⟩ = some (.int .i64 sn) := by rw [HS0.out]; exact cell_blk HR8.out.box rfl
        have r0 : w8.frozen? ⟨g, 6, none⟩ = false := free_blk HR8.out.box
        have e5 : w8.cell? ⟨wr.heap.size, 5, none⟩ = some (.slice A5 pd.length c5) := cell_blk hh8 rfl
        clear hw8 hh8 HR7 HN7
        refine start_ (n := 11) (S := fun w' => w'.cell? ⟨g, 6, none⟩ = some (.int .i64 sn) ∧ w'.frozen? ⟨g, 6, none⟩ = false ∧ w'.cell? ⟨wr.heap.size, 5, none⟩ = some (.slice A5 pd.length c5)) (ds := [10]) (bM 11 0) (by kernel_rfl) rfl rfl (⟨q0, r0, e5⟩) (fun hHeld => ?_)
        refine pu_ 0 65 ?_ (bM 11 1) rfl rfl (by kernel_rfl) (.inl ⟨by rfl, ?_⟩) ?_ ?_ ?_; rotate_left
        · intro w'; go_simp; with_reducible rfl
        rotate_left
        · simp only [pA_, i64_w]; rfl
        refine pu_ 1 66 ?_ (bM 11 3) rfl rfl (by kernel_rfl) (.inl ⟨by rfl, ?_⟩) ?_ ?_ ?_; rotate_left
        · intro w'; go_simp; with_reducible rfl
        rotate_left
        · simp only [pA_, i64_w]; rfl
        refine pu_ 2 67 ?_ (bM 11 7) rfl rfl (by kernel_rfl) (.inl ⟨by rfl, ?_⟩) ?_ ?_ ?_; rotate_left
        · intro w'; go_simp; with_reducible rfl
        rotate_left
        · simp only [pA_, i64_w]; rfl
        refine pu_ 4 69 ?_ (bM 11 23) rfl rfl (by kernel_rfl) (.inl ⟨by rfl, ?_⟩) ?_ ?_ ?_; rotate_left
        · intro w'; go_simp; with_reducible rfl
        rotate_left
        · simp only [pA_, i64_w]; rfl
        refine tk_ 3 68 ?_ (bM 11 31) rfl rfl (by kernel_rfl) (.inl ⟨by rfl, ?_⟩) hHeld ?_ ?_ ?_; rotate_left
        · rintro w' ⟨s0, s1, s2⟩; go_simp; with_reducible rfl
        rotate_left
        · simp only [pA_, i64_w]; rfl
        refine tk_ 5 70 ?_ (bM 11 63) rfl rfl (by kernel_rfl) (.inl ⟨by rfl, ?_⟩) hHeld ?_ ?_ ?_; rotate_left
        · rintro w' ⟨s0, s1, s2⟩; go_simp; with_reducible rfl
        rotate_left
        · simp only [pA_, i64_w]; rfl
        refine pu_ 6 71 ?_ (bM 11 127) rfl rfl (by kernel_rfl) (.inl ⟨by rfl, ?_⟩) ?_ ?_ ?_; rotate_left
        · intro w'; go_simp; with_reducible rfl
        rotate_left
        · simp only [pA_, i64_w]; rfl
        refine pu_ 7 72 ?_ (bM 11 255) rfl rfl (by kernel_rfl) (.inl ⟨by rfl, ?_⟩) ?_ ?_ ?_; rotate_left
        · intro w'; go_simp; with_reducible rfl
        rotate_left
        · simp only [pA_, i64_w]; rfl
        refine pu_ 8 73 ?_ (bM 11 511) rfl rfl (by kernel_rfl) (.inl ⟨by rfl, ?_⟩) ?_ ?_ ?_; rotate_left
        · intro w'; go_simp; with_reducible rfl
        rotate_left
        · simp only [pA_, i64_w]; rfl
        refine pu_ 9 74 ?_ (bM 11 1023) rfl rfl (by kernel_rfl) (.inl ⟨by rfl, ?_⟩) ?_ ?_ ?_; rotate_left
        · intro w'; go_simp; with_reducible rfl
        rotate_left
        · simp only [pA_, i64_w]; rfl
        refine last_ (i := 10) (N := none) (bM 11 2047) rfl rfl (by kernel_rfl) (by decide) (fun K hK => ?_)
        refine skip_ (w1 := ?_) (by rfl) rfl ?_ ?_
        rotate_left
        · go_simp
          rfl
        refine hK.out _ _ ?_
        clear hK K
        refine done_ (by kernel_rfl) ?_
        have HR9 := Lib.hid (HR8.out.set (j := 6) hg0 hg3 (.int .i64 ((sn : Int) + (pd.length : Int)))).drew
        go_wp2_with fail
        go_roundw
        case rel => exact ⟨j + 1, by go_num, by omega, by rw [← HL6.out, HTS.out, ← List.append_assoc]; rw [show tcs gd (fs0 ++ fs.take j ++ [p]) = _ from tcs_snoc2 gd (fs0 ++ fs.take j) p HTY.out HC0.out HS0.out HP0.out]; exact Lib.hid HR9⟩
        case measure => simp [intOf]; omega
      · have e1 : w6.cell? ⟨wr.heap.size, 1, none⟩ = some (.int .u8 3) := cell_blk hh6 rfl
        have hbit : bits .and .u8 3 3 = 3 := by decide
        go_wp2_with fail
        refine start_ (n := 9) (S := fun w' => w'.cell? ⟨wr.heap.size, 1, none⟩ = some (.int .u8 3) ∧ Hid (Below w6.heap.size w6 w')) (ds := []) (bM 9 0) (by kernel_rfl) rfl rfl (⟨e1, Lib.hid (Below.refl _ _).drew⟩) (fun hHeld => ?_)
        refine pu_ 0 50 ?_ (bM 9 1) rfl rfl (by kernel_rfl) (.inl ⟨by rfl, ?_⟩) ?_ ?_ ?_; rotate_left
        · intro w'; go_simp; with_reducible rfl
        rotate_left
        · simp only [pA_, i64_w]; rfl
        refine pu_ 1 51 ?_ (bM 9 3) rfl rfl (by kernel_rfl) (.inl ⟨by rfl, ?_⟩) ?_ ?_ ?_; rotate_left
        · intro w'; go_simp; with_reducible rfl
        rotate_left
        · simp only [pA_, i64_w]; rfl
        refine pu_ 2 52 ?_ (bM 9 7) rfl rfl (by kernel_rfl) (.inl ⟨by rfl, ?_⟩) ?_ ?_ ?_; rotate_left
        · intro w'; go_simp; with_reducible rfl
        rotate_left
        · simp only [pA_, i64_w]; rfl
        refine pu_ 5 55 ?_ (bM 9 39) rfl rfl (by kernel_rfl) (.inl ⟨by rfl, ?_⟩) ?_ ?_ ?_; rotate_left
        · intro w'; go_simp; with_reducible rfl
        rotate_left
        · simp only [pA_, i64_w]; rfl
        refine pu_ 6 56 ?_ (bM 9 103) rfl rfl (by kernel_rfl) (.inl ⟨by rfl, ?_⟩) ?_ ?_ ?_; rotate_left
        · intro w'; go_simp; with_reducible rfl
        rotate_left
        · simp only [pA_, i64_w]; rfl
        refine tk_ 3 53 ?_ (bM 9 111) rfl rfl (by kernel_rfl) (.inl ⟨by rfl, ?_⟩) hHeld ?_ ?_ ?_; rotate_left
        · rintro w' ⟨s0, s1⟩; go_simp; with_reducible rfl
        rotate_left
        · simp only [pA_, i64_w]; rfl
        refine pu_ 4 54 ?_ (bM 9 127) rfl rfl (by kernel_rfl) (.inl ⟨by rfl, ?_⟩) ?_ ?_ ?_; rotate_left
        · intro w'; go_simp; with_reducible rfl
        rotate_left
        · simp only [pA_, i64_w]; rfl
        refine pu_ 7 57 ?_ (bM 9 255) rfl rfl (by kernel_rfl) (.inl ⟨by rfl, ?_⟩) ?_ ?_ ?_; rotate_left
        · intro w'; go_simp; with_reducible rfl
        rotate_left
        · simp only [pA_, i64_w]; rfl
        refine pu_ 8 12 ?_ (bM 9 511) rfl rfl (by kernel_rfl) (.inl ⟨by rfl, ?_⟩) ?_ ?_ ?_; rotate_left
        · intro w'; go_simp; with_reducible rfl
        rotate_left
        · simp only [pA_, i64_w]; rfl
        refine done_ (by kernel_rfl) ?_
        obtain ⟨w7, hw7⟩ : ∃ w7, w7 = w6.drew := ⟨_, rfl⟩
        have hb7 : Below w6.heap.size w6 w7 := by rw [hw7]; exact (Below.refl _ _).drew
        have HR7 := Lib.hid (HR6.out.next hb7)
        have hh7 := keepB hb7 hh6
        rw [← hw7]
        clear hw7 hb7
        obtain ⟨cn, hcn⟩ : ∃ cn, cn = cntF 3 (fs0 ++ fs.take j) := ⟨_, rfl⟩
        obtain ⟨sn, hsn⟩ : ∃ sn, sn = sizF 3 (fs0 ++ fs.take j) := ⟨_, rfl⟩
        have q0 : w7.cell? ⟨g, 7, none⟩ = some (.int .i64 cn) := by rw [hcn]; exact cell_blk HR7.out.box rfl
        have r0 : w7.frozen? ⟨g, 7, none⟩ = false := free_blk HR7.out.box
        have hcb : cn + 1 ≤ 1099511627776 := by rw [hcn]; exact HCN.out 3
        have hsb : sn + pd.length ≤ 1099511627776 := by rw [hsn]; exact HSN.out 3
        have hw1 : IntKind.i64.wrap ((cn : Int) + 1) = (cn : Int) + 1 := by rw [IntKind.wrap_i64]; omega
        have hw2 : IntKind.i64.wrap ((sn : Int) + (pd.length : Int)) = (sn : Int) + (pd.length : Int) := by rw [IntKind.wrap_i64]; omega
        have HC0 := Lib.hid hcn
        have HS0 := Lib.hid hsn
        have HN7 := Lib.hid hh7
        clear hHeld hh7 hcn hsn e1 hbit hh6 HR6 HR4 HR5 HN4 HN5
        go_wp2_with fail
        obtain ⟨w8, hw8⟩ : ∃ w8, w8 = w7.setCell ⟨g, 7, none⟩ (.int .i64 ((cn : Int) + 1)) := ⟨_, rfl⟩
        have HR8 := Lib.hid (HR7.out.set (j := 7) hg0 hg3 (.int .i64 ((cn : Int) + 1)))
        have hh8 := (show w8.heap[wr.heap.size]? = w7.heap[wr.heap.size]? by rw [hw8]; exact set_other _ (by have := HR.out.kept.1; omega)).trans HN7.out
        rw [← hw8] at HR8 ⊢
        have q0 : w8.cell? ⟨g, 8, none⟩ = some (.int .i64 sn) := by rw [HS0.out]; exact cell_blk HR8.out.box rfl
        have r0 : w8.frozen? ⟨g, 8, none⟩ = false := free_blk HR8.out.box
        have e5 : w8.cell? ⟨wr.heap.size, 5, none⟩ = some (.slice A5 pd.length c5) := cell_blk hh8 rfl
        clear hw8 hh8 HR7 HN7
        refine start_ (n := 11) (S := fun w' => w'.cell? ⟨g, 8, none⟩ = some (.int .i64 sn) ∧ w'.frozen? ⟨g, 8, none⟩ = false ∧ w'.cell? ⟨wr.heap.size, 5, none⟩ = some (.slice A5 pd.length c5)) (ds := [10]) (bM 11 0) (by kernel_rfl) rfl rfl (⟨q0, r0, e5⟩) (fun hHeld => ?_)
        refine pu_ 0 65 ?_ (bM 11 1) rfl rfl (by kernel_rfl) (.inl ⟨by rfl, ?_⟩) ?_ ?_ ?_; rotate_left
        · intro w'; go_simp; with_reducible rfl
        rotate_left
        · simp only [pA_, i64_w]; rfl
        refine pu_ 1 66 ?_ (bM 11 3) rfl rfl (by kernel_rfl) (.inl ⟨by rfl, ?_⟩) ?_ ?_ ?_; rotate_left
        · intro w'; go_simp; with_reducible rfl
        rotate_left
        · simp only [pA_, i64_w]; rfl
        refine pu_ 2 67 ?_ (bM 11 7) rfl rfl (by kernel_rfl) (.inl ⟨by rfl, ?_⟩) ?_ ?_ ?_; rotate_left
        · intro w'; go_simp; with_reducible rfl
        rotate_left
        · simp only [pA_, i64_w]; rfl
        refine pu_ 4 69 ?_ (bM 11 23) rfl rfl (by kernel_rfl) (.inl ⟨by rfl, ?_⟩) ?_ ?_ ?_; rotate_left
        · intro w'; go_simp; with_reducible rfl
        rotate_left
        · simp only [pA_, i64_w]; rfl
        refine tk_ 3 68 ?_ (bM 11 31) rfl rfl (by kernel_rfl) (.inl ⟨by rfl, ?_⟩) hHeld ?_ ?_ ?_; rotate_left
        · rintro w' ⟨s0, s1, s2⟩; go_simp; with_reducible rfl
        rotate_left
        · simp only [pA_, i64_w]; rfl
        refine tk_ 5 70 ?_ (bM 11 63) rfl rfl (by kernel_rfl) (.inl ⟨by rfl, ?_⟩) hHeld ?_ ?_ ?_; rotate_left
        · rintro w' ⟨s0, s1, s2⟩; go_simp; with_reducible rfl
        rotate_left
        · simp only [pA_, i64_w]; rfl
        refine pu_ 6 71 ?_ (bM 11 127) rfl rfl (by kernel_rfl) (.inl ⟨by rfl, ?_⟩) ?_ ?_ ?_; rotate_left
        · intro w'; go_simp; with_reducible rfl
        rotate_left
        · simp only [pA_, i64_w]; rfl
        refine pu_ 7 72 ?_ (bM 11 255) rfl rfl (by kernel_rfl) (.inl ⟨by rfl, ?_⟩) ?_ ?_ ?_; rotate_left
        · intro w'; go_simp; with_reducible rfl
        rotate_left
        · simp only [pA_, i64_w]; rfl
        refine pu_ 8 73 ?_ (bM 11 511) rfl rfl (by kernel_rfl) (.inl ⟨by rfl, ?_⟩) ?_ ?_ ?_; rotate_left
        · intro w'; go_simp; with_reducible rfl
        rotate_left
        · simp only [pA_, i64_w]; rfl
        refine pu_ 9 74 ?_ (bM 11 1023) rfl rfl (by kernel_rfl) (.inl ⟨by rfl, ?_⟩) ?_ ?_ ?_; rotate_left
        · intro w'; go_simp; with_reducible rfl
        rotate_left
        · simp only [pA_, i64_w]; rfl
        refine last_ (i := 10) (N := none) (bM 11 2047) rfl rfl (by kernel_rfl) (by decide) (fun K hK => ?_)
        refine skip_ (w1 := ?_) (by rfl) rfl ?_ ?_
        rotate_left
        · go_simp
          rfl
        refine hK.out _ _ ?_
        clear hK K
        refine done_ (by kernel_rfl) ?_
        have HR9 := Lib.hid (HR8.out.set (j := 8) hg0 hg3 (.int .i64 ((sn : Int) + (pd.length : Int)))).drew
        go_wp2_with fail
        go_roundw
        case rel => exact ⟨j + 1, by go_num, by omega, by rw [← HL6.out, HTS.out, ← List.append_assoc]; rw [show tcs gd (fs0 ++ fs.take j ++ [p]) = _ from tcs_snoc3 gd (fs0 ++ fs.take j) p HTY.out HC0.out HS0.out HP0.out]; exact Lib.hid HR9⟩
        case measure => simp [intOf]; omega
    · obtain rfl : j = fs.length := by omega
      have hd1 : decide ((fs.length : Int) < fs.length) = false := by simp
      have ht : fs.take fs.length = fs := List.take_length
      have hbx : tcs gd (fs0 ++ fs) = tcs gd (framesX most (xs ++ ys)) := by rw [HFL.out, ← HFS.out, ← HFS0.out]
      rw [ht, hbx] at HR
      have hlb : (tellL fs).length ≤ 44000000000000 := by
       have h1 := tellL_len fs HOk.out
       have := HLen.out
       omega
      have hg3 : g < w3.heap.size := by omega
      clear ht hbx hlt
      by_cases hc2 : codeX most (xs ++ ys) = 0
      · have he : ev = .nilIface := by rw [HEX.out]; exact if_pos hc2
        subst he
        clear HEX HEV
        go_wp2_with fail
        refine (Tryz.Builder_String_any_f _ _ _ _ HR.out.bld HR.out.kept.1).mono ?_
        rintro e w5 ⟨rfl, hl5, hb5⟩
        have HR5 := Lib.hid (HR.out.put h03 hg3 hb5 hl5)
        clear hl5 hb5
        go_wp2_with fail
        go_ret
        exact ⟨v3, b3, by rw [HTA.out, if_pos hc2, List.append_nil]; rfl, HE.out.fed HR5.out⟩
      · have h28' := h28.resolve_left hc2
        have he : ev = vv b3 0 := by rw [HEX.out]; exact if_neg hc2
        have hd := (HE.out.fed HR.out).tap.dec
        have hst0 := (hd.dead hc2).2.1
        have hE := hd.ev
        have hwc : whyX most (xs ++ ys) = 1000 + codeX most (xs ++ ys) := if_neg hc2
        rw [hwc, ← HEX.out, he] at hE
        have hcr := (cut_code most (xs ++ ys)).resolve_left hc2
        have hsr : 0 ≤ stX most (xs ++ ys) ∧ stX most (xs ++ ys) ≤ 4294967295 := HSR.out hc2
        obtain ⟨stn, hsn⟩ : ∃ stn : Nat, stX most (xs ++ ys) = stn := ⟨(stX most (xs ++ ys)).toNat, by omega⟩
        obtain ⟨ec, hec⟩ : ∃ ec, ec = codeX most (xs ++ ys) := ⟨_, rfl⟩
        have hc1 : 11 ≤ ec := by rw [hec]; exact hcr.1
        have hc3 : ec ≤ 15 := by rw [hec]; exact hcr.2
        rw [hsn] at hst0 hE hsr
        rw [← hec] at hE
        have HEC := Lib.hid hec
        have HSN := Lib.hid hsn
        have HST := Lib.hid hst0
        have HEE := Lib.hid hE
        have hbk : brokenL ec (stn : Int) = Lib.join (([⟨wBroken.toArray⟩, ⟨(whyW ec).toArray⟩, ⟨#[115, 116, 114, 101, 97, 109]⟩, ⟨(Lib.decDigits stn).toArray⟩] : List ByteArray).map (·.data.toList)) [32] ++ [10] := rfl
        have HBK := Lib.hid hbk
        have hs64 : stn < 4294967296 := by omega
        subst he
        clear HEX HEV hd hst0 hE hwc hcr hsn hec hbk
        go_wp2_with fail
        refine (as_at (w := wr) (keepA HR.out.below HT.out) b3).mono ?_
        rintro e w5 ⟨rfl, hb5, hp5⟩
        have HR5 := Lib.hid (HR.out.next hb5)
        have hs5 : w5.cell? ⟨b3, 0, none⟩ = some (.int .u32 stn) := cell_blk (keepB hb5 HST.out) rfl
        have HE5 := Lib.hid (ev_below HEE.out hb5)
        clear hb5
        go_wp2_with fail
        refine (why_any (HG.out.below HR5.out.below) HE5.out hc1 hc3 h28').mono ?_
        rintro e w5 ⟨rfl, rfl⟩
        go_wp2_with fail
        refine (fmtUint stn (by omega) _ (HP.out.below HR5.out.below)).mono ?_
        rintro e w6 ⟨rfl, hb6⟩
        have HR6 := Lib.hid (HR5.out.next hb6)
        clear hb6
        go_wp2_with fail
        refine (joined4 w6 ⟨wBroken.toArray⟩ ⟨(whyW ec).toArray⟩ ⟨#[115, 116, 114, 101, 97, 109]⟩ ⟨(Lib.decDigits stn).toArray⟩ (Nat.le_trans (brok_len ec stn hs64) (by omega))).mono ?_
        rintro e w7 ⟨rfl, hb7⟩
        have HR7 := Lib.hid (HR6.out.next (belowT ba_ hb7))
        have hjl := brok_len ec stn hs64
        obtain ⟨jl, hjl'⟩ : ∃ jl, jl = Lib.join (([⟨wBroken.toArray⟩, ⟨(whyW ec).toArray⟩, ⟨#[115, 116, 114, 101, 97, 109]⟩, ⟨(Lib.decDigits stn).toArray⟩] : List ByteArray).map (·.data.toList)) [32] := ⟨_, rfl⟩
        rw [← hjl'] at hjl HBK ⊢
        clear hb7 hjl'
        go_wp2_with fail
        refine (bldF_str ⟨jl.toArray⟩ HR7.out.bld (by show (tellL fs).length + jl.toArray.size ≤ _; rw [List.size_toArray]; omega) HR7.out.kept.1).mono ?_
        rintro e w8 ⟨rfl, hl8, hb8, _⟩
        have HR8 := Lib.hid (HR7.out.put h03 hg3 hb8 hl8)
        clear hl8 hb8
        go_wp2_with fail
        refine (bldF_byte 10 HR8.out.bld (by rw [List.length_append]; show (tellL fs).length + jl.length + 1 ≤ _; omega) HR8.out.kept.1 rfl).mono ?_
        rintro e w9 ⟨rfl, hl9, hb9, _⟩
        have HR9 := Lib.hid (HR8.out.put h03 hg3 hb9 hl9)
        clear hl9 hb9
        go_wp2_with fail
        refine (Tryz.Builder_String_any_f _ _ _ _ HR9.out.bld HR9.out.kept.1).mono ?_
        rintro e wa ⟨rfl, hla, hba⟩
        have HRa := Lib.hid (HR9.out.put h03 hg3 hba hla)
        clear hla hba
        go_wp2_with fail
        go_ret
        exact ⟨v3, b3, by rw [HTA.out, if_neg hc2, ← HEC.out, HSN.out, HBK.out, ← List.append_assoc]; rfl, HE.out.fed HRa.out⟩
 · have he : errX most xs b = vv b 0 := if_neg hc
   rw [he] at H
   have hev : tellX most xs ys = [] := if_neg hc
   rw [hev]
   clear hV hb0 he hev hB hG hL hP hW hT
   go_enter Tryz.func36, Tryz.ntmps36
   go_wp2_with fail
   refine H.out.mono ?_
   rintro e w ⟨rfl, rfl⟩
   go_wp2_with fail
   go_ret
   exact ⟨v, b, rfl, tfed_dead HV.out HB0.out hc⟩
end Go.Proofs.YtidmgckmphcegaaGreatDoor
