import Derived.Test.YtidmgckmphcegaaGreatDoorProg
import Derived.Below
import Derived.Deep.Draws
import Derived.Deep.AppendLies
import Derived.Maps.AppendAt
import Derived.OwnWalk
import Derived.Laws.BytesArg
import Derived.Laws.MakeOwn
import Derived.Laws.OwnMore
import Derived.Deep.OwnRows
import Derived.Tactics
import Derived.Lib.ConvBytes
import Derived.Laws.Slices
import Derived.WalkKit
import Derived.KernelRfl
import Derived.RowKit3
import Derived.Deep.LoopGhost
import Derived.Deep.QuietTactic
import Derived.BigQuiet
import Derived.WideLaws
import Derived.Deep.DeepCutAuto
import Derived.Deep.CutBlock
import Derived.Deep.RegionHeld3
import Derived.Laws.Rows
import Derived.Lib.AppendStr
import Derived.ArgAppend
import Derived.Laws.IdiomCopy
import Derived.OrdersHeld
import Derived.Laws.BitsLemmas
import Derived.RowKit
import Derived.Test.YtidmgckmphcegaaGreatDoorMW
namespace Go.Proofs.YtidmgckmphcegaaGreatDoor.PTapAssembles
open Go.RowKit Go.Proofs.YtidmgckmphcegaaGreatDoorW.PrintWords Go.Proofs.YtidmgckmphcegaaGreatDoorW.PrintLast Go.Proofs.YtidmgckmphcegaaGreatDoorW.PrintMore
set_option linter.unusedVariables false
set_option linter.unusedSimpArgs false
def errW : Option Int → Value
 | none => .nilIface
 | some c => .iface 235 (.int .i64 c)
theorem errW_none : errW none = .nilIface := rfl
theorem errW_some (c : Int) : errW (some c) = .iface 235 (.int .i64 c) := rfl
theorem info5 : (Tryz.prog.info? 5).map (fun i => (i.zero, i.size, i.bytes)) = some (some (.int .u8 0), 1, 1) := by kernel_rfl
theorem info9 : (Tryz.prog.info? 9).map (fun i => (i.zero, i.size, i.bytes)) = some (some (.string ⟨#[]⟩), 1, 16) := by kernel_rfl
-- the values' own types
/-! ### culvertref26_split: function 53 -/
def culvertref26_split.l0 : Nat → ByteArray → List ByteArray → Int → Int → Option (List ByteArray)
 | 0, _, _, _, _ => none
 | k + 1, x0, x3, x4, x5 => if x5 < (x0.size : Int) then (if 0 ≤ x5 then (if (bt x0 x5) = 32 then (if 0 ≤ x4 then (if x4 ≤ x5 then (if x5 ≤ (x0.size : Int) then (if x3.length < 8796093022208 then (culvertref26_split.l0 k x0 (x3 ++ [x0.extract (x4 : Int).toNat (x5 : Int).toNat]) (wrap64 (x5 + 1)) (wrap64 (x5 + 1))) else (none)) else (none)) else (none)) else (none)) else (culvertref26_split.l0 k x0 x3 x4 (wrap64 (x5 + 1)))) else (none)) else (if 0 ≤ x4 then (if x4 ≤ (x0.size : Int) then (if x3.length < 8796093022208 then (some (x3 ++ [x0.extract (x4 : Int).toNat x0.size])) else (none)) else (none)) else (none))
def culvertref26_split.f (k : Nat) (a0 : ByteArray) : Option (List ByteArray) := culvertref26_split.l0 k a0 ([] : List ByteArray) 0 0
set_option maxHeartbeats 8000000 in
set_option maxRecDepth 100000 in
theorem culvertref26_split.calls (k : Nat) (a0 : ByteArray) (r : List ByteArray) (w : World) (h : culvertref26_split.f k a0 = some r) :
    Calls Tryz.prog 53 #[.string a0] w fun e w' => ∃ v0_ : Value, e = .returned (v0_) ∧ Kd.R Kd.string 9 w' w.heap.size (fun _ => True) v0_ r ∧ Below w.heap.size w w' := by
 have HB := Aside0.mk (Below.refl w.heap.size w)
 have H : (culvertref26_split.l0 k a0 ([] : List ByteArray) 0 0) = some r := h
 clear h
 have H' := Aside0.mk H
 clear H
 go_enter Tryz.func53, Tryz.ntmps53
 go_wp2
 go_loopg [3, 4, 5] k (fun kq v3 v4 v5 w' => ∃ (x3_1 : List ByteArray) (x4_1 : Int) (x5_1 : Int), v4 = .int .i64 x4_1 ∧ v5 = .int .i64 x5_1 ∧ Aside0 (culvertref26_split.l0 kq a0 x3_1 x4_1 x5_1 = some r) ∧ Aside0 (kq ≤ k) ∧ Aside0 (Kd.R Kd.string 9 w' w.heap.size (fun _ => True) v3 x3_1) ∧ Aside0 (Below w.heap.size w w'))
 case atStart => exact ⟨(([] : List ByteArray)), (0), (0), (by first | rfl | (simp; done) | (simp [*]; done)), (by first | rfl | (simp; done) | (simp [*]; done)), H', ⟨Nat.le_refl _⟩, ⟨by first | exact Kd.R_nil _ _ _ _ _ | exact Kd.N_nil _ _ _ _ _ | exact Kd.V_nil _ _ _ _ _ | exact Kd.Q_nil _ _ _ _ _ | exact Kd.S_nil _ _ _ _ _⟩, ⟨by repeat (first | (with_reducible first | exact HB.out | apply below_alloc | apply pw_below_drewN | apply below_drew1) | exact HB.out)⟩⟩
 case round =>
  clear H'
  obtain ⟨x3_1, x4_1, x5_1, rfl, rfl, HA, HK1, HO_3, HB⟩ := hrel
  cases gk with
  | zero => exact absurd HA.out (by simp [culvertref26_split.l0])
  | succ k1 =>
    have H := HA.out
    clear HA
    simp only [culvertref26_split.l0] at H
    by_cases c2 : x5_1 < (a0.size : Int)
    · rw [if_pos c2] at H
      have c2b0 : decide (x5_1 < (a0.size : Int)) = true := decide_eq_true c2
      clear c2
      by_cases c3 : 0 ≤ x5_1
      · rw [if_pos c3] at H
        have c3b0 : decide (0 ≤ x5_1) = true := decide_eq_true c3
        clear c3
        by_cases c5 : (bt a0 x5_1) = 32
        · rw [if_pos c5] at H
          have c5b0 : ((bt a0 x5_1) == 32) = true := beq_iff_eq.mpr c5
          have c5b1 : ((bt a0 x5_1) != 32) = false := bne_eq_false_iff_eq.mpr c5
          clear c5
          by_cases c6 : 0 ≤ x4_1
          · rw [if_pos c6] at H
            have c6b0 := eq_true c6
            have c6b1 : decide (0 ≤ x4_1) = true := decide_eq_true c6
            clear c6
            by_cases c7 : x4_1 ≤ x5_1
            · rw [if_pos c7] at H
              have c7b0 := eq_true c7
              have c7b1 : decide (x4_1 ≤ x5_1) = true := decide_eq_true c7
              clear c7
              by_cases c8 : x5_1 ≤ (a0.size : Int)
              · rw [if_pos c8] at H
                have c8b0 := eq_true c8
                have c8b1 : decide (x5_1 ≤ (a0.size : Int)) = true := decide_eq_true c8
                clear c8
                by_cases c9 : x3_1.length < 8796093022208
                · rw [if_pos c9] at H
                  have LMc9 := Aside0.mk c9
                  clear c9
                  obtain ⟨y168, hy168⟩ : ∃ y_ : List ByteArray, y_ = (x3_1 ++ [a0.extract (x4_1 : Int).toNat (x5_1 : Int).toNat]) := ⟨_, rfl⟩
                  replace H : (culvertref26_split.l0 k1 a0 y168 (wrap64 (x5_1 + 1)) (wrap64 (x5_1 + 1))) = some r := by first | (rw [hy168]; with_reducible exact H) | (have H2_ := (Option.bind_some _ _).symm.trans H; rw [hy168]; with_reducible exact H2_) | (have H2_ := (Option.bind_some _ _).symm.trans H; with_reducible exact H2_) | with_reducible exact H | (rw [hy168]; exact H) | exact H
                  have Ny168 := Aside0.mk hy168
                  clear hy168
                  have H' := Aside0.mk H
                  clear H
                  have p4 : 0 ≤ (x5_1 : Int) := of_decide_eq_true (by first | (with_reducible assumption) | assumption)
                  have q4 : x5_1 < (a0.size : Int) := of_decide_eq_true (by first | (with_reducible assumption) | assumption)
                  have hx4 := bt_at a0 x5_1
                  replace p4 := eq_true p4
                  replace q4 := eq_true q4
                  go_wp2_with (first | ((with_reducible refine gate_builtin (b := .append) (xs := #[.tmp 16, .tmp 21]) rfl ?_); at_builtin; refine Kd.R_append Kd.string (w0 := w) w.heap.size rfl (.tmp 16) (.tmp 21) 94 9 (.string ⟨#[]⟩) 16 rfl Tryz.underlying94 info9 rfl (by decide) (by omega) u3 x3_1 (a0.extract (x4_1 : Int).toNat (x5_1 : Int).toNat) [.string (a0.extract (x4_1 : Int).toNat (x5_1 : Int).toNat)] (fun _ => True) (fun _ => False) rfl rfl ?aP (fun _ hk => hk.elim) ?aF ?aO ?aB ?aS ?aL ?_; (case aP => exact rfl); (case aB => exact (by repeat (first | (with_reducible first | exact HB.out | apply below_alloc | apply pw_below_drewN | apply below_drew1) | exact HB.out))); (case aF => exact (fun _ _ => trivial)); (case aO => exact (by (with_reducible repeat (first | apply Kd.R_alloc | apply Kd.R_drewN | apply Kd.R_drew)); exact HO_3.out)); (case aS => exact (below_size (by repeat (first | (with_reducible first | exact HB.out | apply below_alloc | apply pw_below_drewN | apply below_drew1) | exact HB.out)))); (case aL => have := LMc9.out; omega); intro v169 w10 ho hb hg hat; rw [← Ny168.out] at ho; have n0_ := Aside0.mk (hb); have n1_ := Aside0.mk (ho); clear HB; clear HO_3; have HB := n0_; have HO170 := n1_; clear n0_ n1_; clear ho hb hg hat))
                  go_roundg k1
                  case measure => have := HK1.out; omega
                  case rel => exact ⟨(y168), (wrap64 (x5_1 + 1)), (wrap64 (x5_1 + 1)), (by first | rfl | (simp; done) | (simp [*]; done)), (by first | rfl | (simp; done) | (simp [*]; done)), H', ⟨by have := HK1.out; omega⟩, ⟨by (with_reducible repeat (first | apply Kd.R_alloc | apply Kd.R_drewN | apply Kd.R_drew)); exact HO170.out⟩, ⟨by repeat (first | (with_reducible first | exact HB.out | apply below_alloc | apply pw_below_drewN | apply below_drew1) | exact HB.out)⟩⟩
                · rw [if_neg c9] at H
                  exact absurd H (by simp)
              · rw [if_neg c8] at H
                exact absurd H (by simp)
            · rw [if_neg c7] at H
              exact absurd H (by simp)
          · rw [if_neg c6] at H
            exact absurd H (by simp)
        · rw [if_neg c5] at H
          have c5b0 : ((bt a0 x5_1) == 32) = false := beq_eq_false_iff_ne.mpr c5
          have c5b1 : ((bt a0 x5_1) != 32) = true := bne_iff_ne.mpr c5
          have H' := Aside0.mk H
          clear H
          have p4 : 0 ≤ (x5_1 : Int) := of_decide_eq_true (by first | (with_reducible assumption) | assumption)
          have q4 : x5_1 < (a0.size : Int) := of_decide_eq_true (by first | (with_reducible assumption) | assumption)
          have hx4 := bt_at a0 x5_1
          replace p4 := eq_true p4
          replace q4 := eq_true q4
          go_wp2
          go_roundg k1
          case measure => have := HK1.out; omega
          case rel => exact ⟨(x3_1), (x4_1), (wrap64 (x5_1 + 1)), (by first | rfl | (simp; done) | (simp [*]; done)), (by first | rfl | (simp; done) | (simp [*]; done)), H', ⟨by have := HK1.out; omega⟩, ⟨by (with_reducible repeat (first | apply Kd.R_alloc | apply Kd.R_drewN | apply Kd.R_drew)); exact HO_3.out⟩, ⟨by repeat (first | (with_reducible first | exact HB.out | apply below_alloc | apply pw_below_drewN | apply below_drew1) | exact HB.out)⟩⟩
      · rw [if_neg c3] at H
        exact absurd H (by simp)
    · rw [if_neg c2] at H
      have c2b0 : decide (x5_1 < (a0.size : Int)) = false := decide_eq_false c2
      clear c2
      by_cases c11 : 0 ≤ x4_1
      · rw [if_pos c11] at H
        have c11b0 := eq_true c11
        have c11b1 : decide (0 ≤ x4_1) = true := decide_eq_true c11
        clear c11
        by_cases c12 : x4_1 ≤ (a0.size : Int)
        · rw [if_pos c12] at H
          have c12b0 := eq_true c12
          have c12b1 : decide (x4_1 ≤ (a0.size : Int)) = true := decide_eq_true c12
          clear c12
          by_cases c13 : x3_1.length < 8796093022208
          · rw [if_pos c13] at H
            have LMc13 := Aside0.mk c13
            clear c13
            obtain ⟨y171, hy171⟩ : ∃ y_ : List ByteArray, y_ = (x3_1 ++ [a0.extract (x4_1 : Int).toNat a0.size]) := ⟨_, rfl⟩
            replace H : (some y171) = some r := by first | (rw [hy171]; with_reducible exact H) | (have H2_ := (Option.bind_some _ _).symm.trans H; rw [hy171]; with_reducible exact H2_) | (have H2_ := (Option.bind_some _ _).symm.trans H; with_reducible exact H2_) | with_reducible exact H | (rw [hy171]; exact H) | exact H
            have Ny171 := Aside0.mk hy171
            clear hy171
            obtain rfl := Option.some.inj H
            go_wp2_with (first | ((with_reducible refine gate_builtin (b := .append) (xs := #[.tmp 25, .tmp 29]) rfl ?_); at_builtin; refine Kd.R_append Kd.string (w0 := w) w.heap.size rfl (.tmp 25) (.tmp 29) 94 9 (.string ⟨#[]⟩) 16 rfl Tryz.underlying94 info9 rfl (by decide) (by omega) u3 x3_1 (a0.extract (x4_1 : Int).toNat a0.size) [.string (a0.extract (x4_1 : Int).toNat a0.size)] (fun _ => True) (fun _ => False) rfl rfl ?aP (fun _ hk => hk.elim) ?aF ?aO ?aB ?aS ?aL ?_; (case aP => exact rfl); (case aB => exact (by repeat (first | (with_reducible first | exact HB.out | apply below_alloc | apply pw_below_drewN | apply below_drew1) | exact HB.out))); (case aF => exact (fun _ _ => trivial)); (case aO => exact (by (with_reducible repeat (first | apply Kd.R_alloc | apply Kd.R_drewN | apply Kd.R_drew)); exact HO_3.out)); (case aS => exact (below_size (by repeat (first | (with_reducible first | exact HB.out | apply below_alloc | apply pw_below_drewN | apply below_drew1) | exact HB.out)))); (case aL => have := LMc13.out; omega); intro v172 w14 ho hb hg hat; rw [← Ny171.out] at ho; have n0_ := Aside0.mk (hb); have n1_ := Aside0.mk (ho); clear HB; clear HO_3; have HB := n0_; have HO173 := n1_; clear n0_ n1_; clear ho hb hg hat))
            go_ret
            exact ⟨_, by first | rfl | (simp [errW_none, errW_some] <;> rfl) | (simp [*, errW_none, errW_some] <;> rfl), by (with_reducible repeat (first | apply Kd.R_alloc | apply Kd.R_drewN | apply Kd.R_drew)); exact HO173.out, by repeat (first | (with_reducible first | exact HB.out | apply below_alloc | apply pw_below_drewN | apply below_drew1) | exact HB.out)⟩
          · rw [if_neg c13] at H
            exact absurd H (by simp)
        · rw [if_neg c12] at H
          exact absurd H (by simp)
      · rw [if_neg c11] at H
        exact absurd H (by simp)
/-! ### culvertref25_Number: function 135 -/
mutual
def culvertref25_Number.j0 : Nat → ByteArray → Bool → Option (Int × Bool)
 | 0, _, _ => none
 | k + 1, x0, x4 => if x4 = true then (if 1 ≤ (x0.size : Int) then (culvertref25_Number.j1 k x4 (x0.extract 1 x0.size)) else (none)) else (culvertref25_Number.j1 k x4 x0)
def culvertref25_Number.j1 : Nat → Bool → ByteArray → Option (Int × Bool)
 | 0, _, _ => none
 | k + 1, x4, x5 => if (x5.size : Int) = 0 then (culvertref25_Number.j2 k x4 x5 true) else (if 0 < (x5.size : Int) then (if (bt x5 0) = 48 then (if (x5.size : Int) > 1 then (culvertref25_Number.j2 k x4 x5 true) else (culvertref25_Number.j2 k x4 x5 x4)) else (culvertref25_Number.j2 k x4 x5 false)) else (none))
def culvertref25_Number.j2 : Nat → Bool → ByteArray → Bool → Option (Int × Bool)
 | 0, _, _, _ => none
 | k + 1, x4, x5, x36 => if x36 = true then (some (0, false)) else (culvertref25_Number.l0 k x4 x5 0 0)
def culvertref25_Number.l0 : Nat → Bool → ByteArray → Int → Int → Option (Int × Bool)
 | 0, _, _, _, _ => none
 | k + 1, x4, x5, x6, x7 => if x7 < (x5.size : Int) then (if 0 ≤ x7 then (if (bt x5 x7) < 48 then (culvertref25_Number.j4 k x4 x5 x6 x7 true) else (culvertref25_Number.j4 k x4 x5 x6 x7 (decide ((bt x5 x7) > 57)))) else (none)) else (if x4 = true then (some (x6, true)) else (some (wrap64 (-x6), decide (x6 ≥ (-9223372036854775807)))))
def culvertref25_Number.j4 : Nat → Bool → ByteArray → Int → Int → Bool → Option (Int × Bool)
 | 0, _, _, _, _, _ => none
 | k + 1, x4, x5, x6, x7, x52 => if x52 = true then (some (0, false)) else (if 0 ≤ x7 then (if x7 < (x5.size : Int) then (if x6 < (-922337203685477580) then (some (0, false)) else (if x6 = (-922337203685477580) then (if (((bt x5 x7) - 48) % 256) > 8 then (some (0, false)) else (culvertref25_Number.l0 k x4 x5 (wrap64 ((wrap64 (10 * x6)) - (((bt x5 x7) - 48) % 256))) (wrap64 (x7 + 1)))) else (culvertref25_Number.l0 k x4 x5 (wrap64 ((wrap64 (10 * x6)) - (((bt x5 x7) - 48) % 256))) (wrap64 (x7 + 1))))) else (none)) else (none))
end
def culvertref25_Number.f (k : Nat) (a0 : ByteArray) : Option (Int × Bool) := if (a0.size : Int) > 0 then (if 0 < (a0.size : Int) then (culvertref25_Number.j0 k a0 ((bt a0 0) == 45)) else (none)) else (culvertref25_Number.j0 k a0 false)
set_option maxHeartbeats 8000000 in
set_option maxRecDepth 100000 in
theorem culvertref25_Number.calls (k : Nat) (a0 : ByteArray) (r1 : Int) (r2 : Bool) (w : World) (h : culvertref25_Number.f k a0 = some (r1, r2)) :
    Calls Tryz.prog 135 #[.string a0] w fun e w' => e = .returned (.tuple #[.int .i64 r1, .bool r2]) ∧ Drawn0 w w' := by
 have H : (if (a0.size : Int) > 0 then (if 0 < (a0.size : Int) then (culvertref25_Number.j0 k a0 ((bt a0 0) == 45)) else (none)) else (culvertref25_Number.j0 k a0 false)) = some (r1, r2) := h
 clear h
 have HC2 := Aside0.mk H
 clear H
 go_enter Tryz.func135, Tryz.ntmps135
 go_upto_region 1 with (fail)
 go_cut [4] (fun v4 wc => ∃ (kq : Nat) (x4_1 : Bool), v4 = .bool x4_1 ∧ Aside0 (culvertref25_Number.j0 kq a0 x4_1 = some (r1, r2)) ∧ Aside0 (kq ≤ k) ∧ Drawn0 w wc)
 case first =>
  have H := HC2.out
  clear HC2
  by_cases c3 : (a0.size : Int) > 0
  · rw [if_pos c3] at H
    have c3b0 : decide (0 < (a0.size : Int)) = true := decide_eq_true c3
    have c3b1 : decide (0 < a0.size) = true := decide_eq_true (by omega)
    clear c3
    (first | rw [c3b0] | (simp only [i64_w, i32_w]; rw [c3b0]) | skip)
    by_cases c4 : 0 < (a0.size : Int)
    · rw [if_pos c4] at H
      have c4b0 : decide (0 < (a0.size : Int)) = true := decide_eq_true c4
      have c4b1 : decide (0 < a0.size) = true := decide_eq_true (by omega)
      clear c4
      have H' := Aside0.mk H
      clear H
      have p5 : 0 ≤ (0 : Int) := (by omega)
      have q5 : 0 < a0.size := (by have : (0 : Int) < (a0.size : Int) := of_decide_eq_true (by first | (with_reducible assumption) | assumption); omega)
      have hx5 : ∀ h : 0 < a0.size, ((a0[0]'h).toNat : Int) = bt a0 0 := bt_at a0 0
      clear p5
      have qi5 : (0 < (a0.size : Int)) = True := eq_true (of_decide_eq_true (by first | (with_reducible assumption) | assumption))
      replace q5 := eq_true q5
      go_wp2
      go_meet
      case rel => exact ⟨_, (((bt a0 0) == 45)), (by first | rfl | (simp; done) | (simp [*]; done)), H', ⟨by first | omega | exact Nat.le_refl _⟩, by repeat (first | exact Drawn0.refl _ | apply Drawn0.step)⟩
    · rw [if_neg c4] at H
      exact absurd H (by simp)
  · rw [if_neg c3] at H
    have c3b0 : decide (0 < (a0.size : Int)) = false := decide_eq_false c3
    have c3b1 : decide (0 < a0.size) = false := decide_eq_false (by omega)
    clear c3
    (first | rw [c3b0] | (simp only [i64_w, i32_w]; rw [c3b0]) | skip)
    have H' := Aside0.mk H
    clear H
    go_wp2
    go_meet
    case rel => exact ⟨_, (false), (by first | rfl | (simp; done) | (simp [*]; done)), H', ⟨by first | omega | exact Nat.le_refl _⟩, by repeat (first | exact Drawn0.refl _ | apply Drawn0.step)⟩
 case rest =>
  clear HC2
  try clear c1
  try clear p2
  try clear c3
  try clear c3b0
  try clear c3b1
  try clear c4
  try clear c4b0
  try clear c4b1
  try clear p5
  try clear q5
  try clear hx5
  try clear qi5
  try clear p5
  try clear q5
  obtain ⟨kq, x4_1, rfl, HA, HJ1, ⟨mc1, rfl⟩⟩ := hcut
  cases kq with
  | zero => exact absurd HA.out (by simp [culvertref25_Number.j0])
  | succ kj1 =>
    have H := HA.out
    clear HA
    simp only [culvertref25_Number.j0] at H
    have HC6 := Aside0.mk H
    clear H
    go_upto_if 18 with (fail)
    go_cut [5] (fun v5 wc => ∃ (kq : Nat) (x5_5 : ByteArray), v5 = .string x5_5 ∧ Aside0 (culvertref25_Number.j1 kq x4_1 x5_5 = some (r1, r2)) ∧ Aside0 (kq ≤ kj1) ∧ Drawn0 w wc)
    case first =>
     have H := HC6.out
     clear HC6
     by_cases c7 : x4_1 = true
     · subst c7
       have H1 : (if 1 ≤ (a0.size : Int) then (culvertref25_Number.j1 kj1 true (a0.extract 1 a0.size)) else (none)) = some (r1, r2) := by rw [if_pos rfl] at H; exact H
       clear H
       have H := H1
       clear H1
       by_cases c8 : 1 ≤ (a0.size : Int)
       · rw [if_pos c8] at H
         have c8b0 := eq_true c8
         have c8b1 : decide (1 ≤ (a0.size : Int)) = true := decide_eq_true c8
         clear c8
         have H' := Aside0.mk H
         clear H
         go_wp2
         go_meet
         case rel => exact ⟨_, (a0.extract 1 a0.size), (by first | rfl | (simp; done) | (simp [*]; done)), H', ⟨by have := HJ1.out; first | omega | exact Nat.le_refl _⟩, by repeat (first | exact Drawn0.refl _ | apply Drawn0.step)⟩
       · rw [if_neg c8] at H
         exact absurd H (by simp)
     · replace c7 := Bool.eq_false_iff.mpr c7
       subst c7
       have H1 : (culvertref25_Number.j1 kj1 false a0) = some (r1, r2) := by rw [if_neg (show ¬ (false = true) by decide)] at H; exact H
       clear H
       have H := H1
       clear H1
       have H' := Aside0.mk H
       clear H
       go_wp2
       go_meet
       case rel => exact ⟨_, (a0), (by first | rfl | (simp; done) | (simp [*]; done)), H', ⟨by have := HJ1.out; first | omega | exact Nat.le_refl _⟩, by repeat (first | exact Drawn0.refl _ | apply Drawn0.step)⟩
    case rest =>
     clear HC6
     try clear c1
     try clear p2
     try clear c3
     try clear c3b0
     try clear c3b1
     try clear c4
     try clear c4b0
     try clear c4b1
     try clear p5
     try clear q5
     try clear hx5
     try clear qi5
     try clear c7
     try clear c8
     try clear c8b0
     try clear c8b1
     try clear p2
     try clear p5
     try clear q5
     obtain ⟨kq, x5_5, rfl, HA, HJ5, ⟨mc5, rfl⟩⟩ := hcut
     cases kq with
     | zero => exact absurd HA.out (by simp [culvertref25_Number.j1])
     | succ kj5 =>
       have H := HA.out
       clear HA
       simp only [culvertref25_Number.j1] at H
       have HC9 := Aside0.mk H
       clear H
       go_upto_region 5 with (fail)
       go_cut [36] (fun v36 wc => ∃ (kq : Nat) (x36_8 : Bool), v36 = .bool x36_8 ∧ Aside0 (culvertref25_Number.j2 kq x4_1 x5_5 x36_8 = some (r1, r2)) ∧ Aside0 (kq ≤ kj5) ∧ Drawn0 w wc)
       case first =>
        have H := HC9.out
        clear HC9
        by_cases c10 : (x5_5.size : Int) = 0
        · rw [if_pos c10] at H
          have c10b0 : ((x5_5.size : Int) == 0) = true := beq_iff_eq.mpr c10
          have c10b1 : ((x5_5.size : Int) != 0) = false := bne_eq_false_iff_eq.mpr c10
          clear c10
          (first | rw [c10b0] | (simp only [i64_w, i32_w]; rw [c10b0]) | skip)
          have H' := Aside0.mk H
          clear H
          go_wp2
          go_meet
          case rel => exact ⟨_, (true), (by first | rfl | (simp; done) | (simp [*]; done)), H', ⟨by have := HJ1.out; have := HJ5.out; first | omega | exact Nat.le_refl _⟩, by repeat (first | exact Drawn0.refl _ | apply Drawn0.step)⟩
        · rw [if_neg c10] at H
          have c10b0 : ((x5_5.size : Int) == 0) = false := beq_eq_false_iff_ne.mpr c10
          have c10b1 : ((x5_5.size : Int) != 0) = true := bne_iff_ne.mpr c10
          (first | rw [c10b0] | (simp only [i64_w, i32_w]; rw [c10b0]) | skip)
          by_cases c11 : 0 < (x5_5.size : Int)
          · rw [if_pos c11] at H
            have c11b0 : decide (0 < (x5_5.size : Int)) = true := decide_eq_true c11
            have c11b1 : decide (0 < x5_5.size) = true := decide_eq_true (by omega)
            clear c11
            by_cases c13 : (bt x5_5 0) = 48
            · rw [if_pos c13] at H
              have c13b0 : ((bt x5_5 0) == 48) = true := beq_iff_eq.mpr c13
              have c13b1 : ((bt x5_5 0) != 48) = false := bne_eq_false_iff_eq.mpr c13
              clear c13
              by_cases c14 : (x5_5.size : Int) > 1
              · rw [if_pos c14] at H
                have c14b0 : decide (1 < (x5_5.size : Int)) = true := decide_eq_true c14
                have c14b1 : decide (1 < x5_5.size) = true := decide_eq_true (by omega)
                clear c14
                have H' := Aside0.mk H
                clear H
                have p12 : 0 ≤ (0 : Int) := (by omega)
                have q12 : 0 < x5_5.size := (by have : (0 : Int) < (x5_5.size : Int) := of_decide_eq_true (by first | (with_reducible assumption) | assumption); omega)
                have hx12 : ∀ h : 0 < x5_5.size, ((x5_5[0]'h).toNat : Int) = bt x5_5 0 := bt_at x5_5 0
                clear p12
                have qi12 : (0 < (x5_5.size : Int)) = True := eq_true (of_decide_eq_true (by first | (with_reducible assumption) | assumption))
                replace q12 := eq_true q12
                go_wp2
                go_meet
                case rel => exact ⟨_, (true), (by first | rfl | (simp; done) | (simp [*]; done)), H', ⟨by have := HJ1.out; have := HJ5.out; first | omega | exact Nat.le_refl _⟩, by repeat (first | exact Drawn0.refl _ | apply Drawn0.step)⟩
              · rw [if_neg c14] at H
                have c14b0 : decide (1 < (x5_5.size : Int)) = false := decide_eq_false c14
                have c14b1 : decide (1 < x5_5.size) = false := decide_eq_false (by omega)
                clear c14
                have H' := Aside0.mk H
                clear H
                have p12 : 0 ≤ (0 : Int) := (by omega)
                have q12 : 0 < x5_5.size := (by have : (0 : Int) < (x5_5.size : Int) := of_decide_eq_true (by first | (with_reducible assumption) | assumption); omega)
                have hx12 : ∀ h : 0 < x5_5.size, ((x5_5[0]'h).toNat : Int) = bt x5_5 0 := bt_at x5_5 0
                clear p12
                have qi12 : (0 < (x5_5.size : Int)) = True := eq_true (of_decide_eq_true (by first | (with_reducible assumption) | assumption))
                replace q12 := eq_true q12
                go_wp2
                go_meet
                case rel => exact ⟨_, (x4_1), (by first | rfl | (simp; done) | (simp [*]; done)), H', ⟨by have := HJ1.out; have := HJ5.out; first | omega | exact Nat.le_refl _⟩, by repeat (first | exact Drawn0.refl _ | apply Drawn0.step)⟩
            · rw [if_neg c13] at H
              have c13b0 : ((bt x5_5 0) == 48) = false := beq_eq_false_iff_ne.mpr c13
              have c13b1 : ((bt x5_5 0) != 48) = true := bne_iff_ne.mpr c13
              have H' := Aside0.mk H
              clear H
              have p12 : 0 ≤ (0 : Int) := (by omega)
              have q12 : 0 < x5_5.size := (by have : (0 : Int) < (x5_5.size : Int) := of_decide_eq_true (by first | (with_reducible assumption) | assumption); omega)
              have hx12 : ∀ h : 0 < x5_5.size, ((x5_5[0]'h).toNat : Int) = bt x5_5 0 := bt_at x5_5 0
              clear p12
              have qi12 : (0 < (x5_5.size : Int)) = True := eq_true (of_decide_eq_true (by first | (with_reducible assumption) | assumption))
              replace q12 := eq_true q12
              go_wp2
              go_meet
              case rel => exact ⟨_, (false), (by first | rfl | (simp; done) | (simp [*]; done)), H', ⟨by have := HJ1.out; have := HJ5.out; first | omega | exact Nat.le_refl _⟩, by repeat (first | exact Drawn0.refl _ | apply Drawn0.step)⟩
          · rw [if_neg c11] at H
            exact absurd H (by simp)
       case rest =>
        clear HC9
        try clear c1
        try clear p1
        try clear q1
        try clear hx1
        try clear qi1
        try clear p2
        try clear c3
        try clear c3b0
        try clear c3b1
        try clear c4
        try clear c4b0
        try clear c4b1
        try clear c5
        try clear p5
        try clear q5
        try clear hx5
        try clear qi5
        try clear c7
        try clear c8
        try clear c8b0
        try clear c8b1
        try clear c10
        try clear c10b0
        try clear c10b1
        try clear c11
        try clear c11b0
        try clear c11b1
        try clear p12
        try clear q12
        try clear hx12
        try clear qi12
        try clear c13
        try clear c13b0
        try clear c13b1
        try clear c14
        try clear c14b0
        try clear c14b1
        try clear p12
        try clear p2
        try clear p5
        try clear q12
        try clear q5
        obtain ⟨kq, x36_8, rfl, HA, HJ8, ⟨mc8, rfl⟩⟩ := hcut
        cases kq with
        | zero => exact absurd HA.out (by simp [culvertref25_Number.j2])
        | succ kj8 =>
          have H := HA.out
          clear HA
          simp only [culvertref25_Number.j2] at H
          by_cases c15 : x36_8 = true
          · subst c15
            have H1 : (some (0, false)) = some (r1, r2) := by rw [if_pos rfl] at H; exact H
            clear H
            have H := H1
            clear H1
            simp only [Option.some.injEq, Prod.mk.injEq] at H
            obtain ⟨rfl, rfl⟩ := H
            go_wp2
            go_ret2
            exact ⟨by first | rfl | (simp; done) | (simp [*]; done), by repeat (first | exact Drawn0.refl _ | apply Drawn0.step)⟩
          · replace c15 := Bool.eq_false_iff.mpr c15
            subst c15
            have H1 : (culvertref25_Number.l0 kj8 x4_1 x5_5 0 0) = some (r1, r2) := by rw [if_neg (show ¬ (false = true) by decide)] at H; exact H
            clear H
            have H := H1
            clear H1
            have H' := Aside0.mk H
            clear H
            go_wp2
            go_loopg [6, 7] kj8 (fun kq v6 v7 w' => ∃ (x6_4 : Int) (x7_4 : Int), v6 = .int .i64 x6_4 ∧ v7 = .int .i64 x7_4 ∧ Aside0 (culvertref25_Number.l0 kq x4_1 x5_5 x6_4 x7_4 = some (r1, r2)) ∧ Aside0 (kq ≤ kj8) ∧ Drawn0 w w')
            case atStart => exact ⟨(0), (0), (by first | rfl | (simp; done) | (simp [*]; done)), (by first | rfl | (simp; done) | (simp [*]; done)), H', ⟨Nat.le_refl _⟩, by repeat (first | exact Drawn0.refl _ | apply Drawn0.step)⟩
            case round =>
             clear H'
             try clear c1
             try clear p1
             try clear q1
             try clear hx1
             try clear qi1
             try clear p2
             try clear c3
             try clear c3b0
             try clear c3b1
             try clear c4
             try clear c4b0
             try clear c4b1
             try clear c5
             try clear p5
             try clear q5
             try clear hx5
             try clear qi5
             try clear c7
             try clear c8
             try clear c8b0
             try clear c8b1
             try clear c10
             try clear c10b0
             try clear c10b1
             try clear c11
             try clear c11b0
             try clear c11b1
             try clear p12
             try clear q12
             try clear hx12
             try clear qi12
             try clear c13
             try clear c13b0
             try clear c13b1
             try clear c14
             try clear c14b0
             try clear c14b1
             try clear c15
             try clear p1
             try clear p12
             try clear p2
             try clear p5
             try clear q1
             try clear q12
             try clear q5
             obtain ⟨x6_4, x7_4, rfl, rfl, HA, HK4, ⟨m4, rfl⟩⟩ := hrel
             cases gk with
             | zero => exact absurd HA.out (by simp [culvertref25_Number.l0])
             | succ k4 =>
               have H := HA.out
               clear HA
               simp only [culvertref25_Number.l0] at H
               by_cases c16 : x7_4 < (x5_5.size : Int)
               · rw [if_pos c16] at H
                 have c16b0 : decide (x7_4 < (x5_5.size : Int)) = true := decide_eq_true c16
                 clear c16
                 have HC17 := Aside0.mk H
                 clear H
                 go_upto_region 11 with (fail)
                 go_cut [52] (fun v52 wc => ∃ (kq : Nat) (x52_16 : Bool), v52 = .bool x52_16 ∧ Aside0 (culvertref25_Number.j4 kq x4_1 x5_5 x6_4 x7_4 x52_16 = some (r1, r2)) ∧ Aside0 (kq ≤ k4) ∧ Drawn0 w wc)
                 case first =>
                  have H := HC17.out
                  clear HC17
                  by_cases c18 : 0 ≤ x7_4
                  · rw [if_pos c18] at H
                    have c18b0 : decide (0 ≤ x7_4) = true := decide_eq_true c18
                    clear c18
                    (first | rw [c18b0] | (simp only [i64_w, i32_w]; rw [c18b0]) | skip)
                    by_cases c20 : (bt x5_5 x7_4) < 48
                    · rw [if_pos c20] at H
                      have c20b0 : decide ((bt x5_5 x7_4) < 48) = true := decide_eq_true c20
                      clear c20
                      have H' := Aside0.mk H
                      clear H
                      have p19 : 0 ≤ (x7_4 : Int) := of_decide_eq_true (by first | (with_reducible assumption) | assumption)
                      have q19 : x7_4 < (x5_5.size : Int) := of_decide_eq_true (by first | (with_reducible assumption) | assumption)
                      have hx19 := bt_at x5_5 x7_4
                      replace p19 := eq_true p19
                      replace q19 := eq_true q19
                      go_wp2
                      go_meet
                      case rel => exact ⟨_, (true), (by first | rfl | (simp; done) | (simp [*]; done)), H', ⟨by have := HJ1.out; have := HJ5.out; have := HJ8.out; have := HK4.out; first | omega | exact Nat.le_refl _⟩, by repeat (first | exact Drawn0.refl _ | apply Drawn0.step)⟩
                    · rw [if_neg c20] at H
                      have c20b0 : decide ((bt x5_5 x7_4) < 48) = false := decide_eq_false c20
                      clear c20
                      have H' := Aside0.mk H
                      clear H
                      have p19 : 0 ≤ (x7_4 : Int) := of_decide_eq_true (by first | (with_reducible assumption) | assumption)
                      have q19 : x7_4 < (x5_5.size : Int) := of_decide_eq_true (by first | (with_reducible assumption) | assumption)
                      have hx19 := bt_at x5_5 x7_4
                      replace p19 := eq_true p19
                      replace q19 := eq_true q19
                      have p21 : 0 ≤ (x7_4 : Int) := of_decide_eq_true (by first | (with_reducible assumption) | assumption)
                      have q21 : x7_4 < (x5_5.size : Int) := of_decide_eq_true (by first | (with_reducible assumption) | assumption)
                      have hx21 := bt_at x5_5 x7_4
                      replace p21 := eq_true p21
                      replace q21 := eq_true q21
                      go_wp2
                      go_meet
                      case rel => exact ⟨_, (decide ((bt x5_5 x7_4) > 57)), (by first | rfl | (simp; done) | (simp [*]; done)), H', ⟨by have := HJ1.out; have := HJ5.out; have := HJ8.out; have := HK4.out; first | omega | exact Nat.le_refl _⟩, by repeat (first | exact Drawn0.refl _ | apply Drawn0.step)⟩
                  · rw [if_neg c18] at H
                    exact absurd H (by simp)
                 case rest =>
                  clear HC17
                  try clear c1
                  try clear p1
                  try clear q1
                  try clear hx1
                  try clear qi1
                  try clear c2
                  try clear p2
                  try clear q2
                  try clear hx2
                  try clear c3
                  try clear c3b0
                  try clear c3b1
                  try clear c4
                  try clear c4b0
                  try clear c4b1
                  try clear c5
                  try clear p5
                  try clear q5
                  try clear hx5
                  try clear qi5
                  try clear c7
                  try clear c8
                  try clear c8b0
                  try clear c8b1
                  try clear c10
                  try clear c10b0
                  try clear c10b1
                  try clear c11
                  try clear c11b0
                  try clear c11b1
                  try clear p12
                  try clear q12
                  try clear hx12
                  try clear qi12
                  try clear c13
                  try clear c13b0
                  try clear c13b1
                  try clear c14
                  try clear c14b0
                  try clear c14b1
                  try clear c15
                  try clear c16
                  try clear c16b0
                  try clear c18
                  try clear c18b0
                  try clear p19
                  try clear q19
                  try clear hx19
                  try clear c20
                  try clear c20b0
                  try clear p21
                  try clear q21
                  try clear hx21
                  try clear p1
                  try clear p12
                  try clear p19
                  try clear p2
                  try clear p21
                  try clear p5
                  try clear q1
                  try clear q12
                  try clear q19
                  try clear q21
                  try clear q5
                  obtain ⟨kq, x52_16, rfl, HA, HJ16, ⟨mc16, rfl⟩⟩ := hcut
                  cases kq with
                  | zero => exact absurd HA.out (by simp [culvertref25_Number.j4])
                  | succ kj16 =>
                    have H := HA.out
                    clear HA
                    simp only [culvertref25_Number.j4] at H
                    by_cases c22 : x52_16 = true
                    · subst c22
                      have H1 : (some (0, false)) = some (r1, r2) := by rw [if_pos rfl] at H; exact H
                      clear H
                      have H := H1
                      clear H1
                      simp only [Option.some.injEq, Prod.mk.injEq] at H
                      obtain ⟨rfl, rfl⟩ := H
                      go_wp2
                      go_ret2
                      exact ⟨by first | rfl | (simp; done) | (simp [*]; done), by repeat (first | exact Drawn0.refl _ | apply Drawn0.step)⟩
                    · replace c22 := Bool.eq_false_iff.mpr c22
                      subst c22
                      have H1 : (if 0 ≤ x7_4 then (if x7_4 < (x5_5.size : Int) then (if x6_4 < (-922337203685477580) then (some (0, false)) else (if x6_4 = (-922337203685477580) then (if (((bt x5_5 x7_4) - 48) % 256) > 8 then (some (0, false)) else (culvertref25_Number.l0 kj16 x4_1 x5_5 (wrap64 ((wrap64 (10 * x6_4)) - (((bt x5_5 x7_4) - 48) % 256))) (wrap64 (x7_4 + 1)))) else (culvertref25_Number.l0 kj16 x4_1 x5_5 (wrap64 ((wrap64 (10 * x6_4)) - (((bt x5_5 x7_4) - 48) % 256))) (wrap64 (x7_4 + 1))))) else (none)) else (none)) = some (r1, r2) := by rw [if_neg (show ¬ (false = true) by decide)] at H; exact H
                      clear H
                      have H := H1
                      clear H1
                      by_cases c23 : 0 ≤ x7_4
                      · rw [if_pos c23] at H
                        have c23b0 : decide (0 ≤ x7_4) = true := decide_eq_true c23
                        clear c23
                        by_cases c24 : x7_4 < (x5_5.size : Int)
                        · rw [if_pos c24] at H
                          have c24b0 : decide (x7_4 < (x5_5.size : Int)) = true := decide_eq_true c24
                          clear c24
                          by_cases c26 : x6_4 < (-922337203685477580)
                          · rw [if_pos c26] at H
                            have c26b0 : decide (x6_4 < (-922337203685477580)) = true := decide_eq_true c26
                            clear c26
                            simp only [Option.some.injEq, Prod.mk.injEq] at H
                            obtain ⟨rfl, rfl⟩ := H
                            have p25 : 0 ≤ (x7_4 : Int) := of_decide_eq_true (by first | (with_reducible assumption) | assumption)
                            have q25 : x7_4 < (x5_5.size : Int) := of_decide_eq_true (by first | (with_reducible assumption) | assumption)
                            have hx25 := bt_at x5_5 x7_4
                            replace p25 := eq_true p25
                            replace q25 := eq_true q25
                            go_wp2
                            go_ret2
                            exact ⟨by first | rfl | (simp; done) | (simp [*]; done), by repeat (first | exact Drawn0.refl _ | apply Drawn0.step)⟩
                          · rw [if_neg c26] at H
                            have c26b0 : decide (x6_4 < (-922337203685477580)) = false := decide_eq_false c26
                            clear c26
                            by_cases c27 : x6_4 = (-922337203685477580)
                            · rw [if_pos c27] at H
                              have c27b0 : (x6_4 == (-922337203685477580)) = true := beq_iff_eq.mpr c27
                              have c27b1 : (x6_4 != (-922337203685477580)) = false := bne_eq_false_iff_eq.mpr c27
                              clear c27
                              by_cases c28 : (((bt x5_5 x7_4) - 48) % 256) > 8
                              · rw [if_pos c28] at H
                                have c28b0 : decide (8 < (((bt x5_5 x7_4) - 48) % 256)) = true := decide_eq_true c28
                                clear c28
                                simp only [Option.some.injEq, Prod.mk.injEq] at H
                                obtain ⟨rfl, rfl⟩ := H
                                have p25 : 0 ≤ (x7_4 : Int) := of_decide_eq_true (by first | (with_reducible assumption) | assumption)
                                have q25 : x7_4 < (x5_5.size : Int) := of_decide_eq_true (by first | (with_reducible assumption) | assumption)
                                have hx25 := bt_at x5_5 x7_4
                                replace p25 := eq_true p25
                                replace q25 := eq_true q25
                                go_wp2
                                go_ret2
                                exact ⟨by first | rfl | (simp; done) | (simp [*]; done), by repeat (first | exact Drawn0.refl _ | apply Drawn0.step)⟩
                              · rw [if_neg c28] at H
                                have c28b0 : decide (8 < (((bt x5_5 x7_4) - 48) % 256)) = false := decide_eq_false c28
                                clear c28
                                have H' := Aside0.mk H
                                clear H
                                have p25 : 0 ≤ (x7_4 : Int) := of_decide_eq_true (by first | (with_reducible assumption) | assumption)
                                have q25 : x7_4 < (x5_5.size : Int) := of_decide_eq_true (by first | (with_reducible assumption) | assumption)
                                have hx25 := bt_at x5_5 x7_4
                                replace p25 := eq_true p25
                                replace q25 := eq_true q25
                                go_wp2
                                go_roundg kj16
                                case measure => have := HJ1.out; have := HJ5.out; have := HJ8.out; have := HK4.out; have := HJ16.out; omega
                                case rel => exact ⟨(wrap64 ((wrap64 (10 * x6_4)) - (((bt x5_5 x7_4) - 48) % 256))), (wrap64 (x7_4 + 1)), (by first | rfl | (simp; done) | (simp [*]; done)), (by first | rfl | (simp; done) | (simp [*]; done)), H', ⟨by have := HJ1.out; have := HJ5.out; have := HJ8.out; have := HK4.out; have := HJ16.out; omega⟩, by repeat (first | exact Drawn0.refl _ | apply Drawn0.step)⟩
                            · rw [if_neg c27] at H
                              have c27b0 : (x6_4 == (-922337203685477580)) = false := beq_eq_false_iff_ne.mpr c27
                              have c27b1 : (x6_4 != (-922337203685477580)) = true := bne_iff_ne.mpr c27
                              have H' := Aside0.mk H
                              clear H
                              have p25 : 0 ≤ (x7_4 : Int) := of_decide_eq_true (by first | (with_reducible assumption) | assumption)
                              have q25 : x7_4 < (x5_5.size : Int) := of_decide_eq_true (by first | (with_reducible assumption) | assumption)
                              have hx25 := bt_at x5_5 x7_4
                              replace p25 := eq_true p25
                              replace q25 := eq_true q25
                              go_wp2
                              go_roundg kj16
                              case measure => have := HJ1.out; have := HJ5.out; have := HJ8.out; have := HK4.out; have := HJ16.out; omega
                              case rel => exact ⟨(wrap64 ((wrap64 (10 * x6_4)) - (((bt x5_5 x7_4) - 48) % 256))), (wrap64 (x7_4 + 1)), (by first | rfl | (simp; done) | (simp [*]; done)), (by first | rfl | (simp; done) | (simp [*]; done)), H', ⟨by have := HJ1.out; have := HJ5.out; have := HJ8.out; have := HK4.out; have := HJ16.out; omega⟩, by repeat (first | exact Drawn0.refl _ | apply Drawn0.step)⟩
                        · rw [if_neg c24] at H
                          exact absurd H (by simp)
                      · rw [if_neg c23] at H
                        exact absurd H (by simp)
               · rw [if_neg c16] at H
                 have c16b0 : decide (x7_4 < (x5_5.size : Int)) = false := decide_eq_false c16
                 clear c16
                 by_cases c29 : x4_1 = true
                 · subst c29
                   have H1 : (some (x6_4, true)) = some (r1, r2) := by rw [if_pos rfl] at H; exact H
                   clear H
                   have H := H1
                   clear H1
                   simp only [Option.some.injEq, Prod.mk.injEq] at H
                   obtain ⟨rfl, rfl⟩ := H
                   go_wp2
                   go_ret2
                   exact ⟨by first | rfl | (simp; done) | (simp [*]; done), by repeat (first | exact Drawn0.refl _ | apply Drawn0.step)⟩
                 · replace c29 := Bool.eq_false_iff.mpr c29
                   subst c29
                   have H1 : (some (wrap64 (-x6_4), decide (x6_4 ≥ (-9223372036854775807)))) = some (r1, r2) := by rw [if_neg (show ¬ (false = true) by decide)] at H; exact H
                   clear H
                   have H := H1
                   clear H1
                   simp only [Option.some.injEq, Prod.mk.injEq] at H
                   obtain ⟨rfl, rfl⟩ := H
                   go_wp2
                   go_ret2
                   exact ⟨by first | rfl | (simp; done) | (simp [*]; done), by repeat (first | exact Drawn0.refl _ | apply Drawn0.step)⟩
/-! ### culvertref26_number: function 119 -/
def culvertref26_number.f (k : Nat) (a0 : ByteArray) (a1 : Int) (a2 : Int) : Option (Int × Bool) := (culvertref25_Number.f k a0).bind fun bt177 => (if bt177.2 = true then (if bt177.1 ≥ a1 then (some (bt177.1, decide (bt177.1 ≤ a2))) else (some (bt177.1, false))) else (some (bt177.1, false)))
set_option maxHeartbeats 8000000 in
set_option maxRecDepth 100000 in
theorem culvertref26_number.calls (k : Nat) (a0 : ByteArray) (a1 : Int) (a2 : Int) (r1 : Int) (r2 : Bool) (w : World) (h : culvertref26_number.f k a0 a1 a2 = some (r1, r2)) :
    Calls Tryz.prog 119 #[.string a0, .int .i64 a1, .int .i64 a2] w fun e w' => e = .returned (.tuple #[.int .i64 r1, .bool r2]) ∧ Drawn0 w w' := by
 have H : ((culvertref25_Number.f k a0).bind fun bt177 => (if bt177.2 = true then (if bt177.1 ≥ a1 then (some (bt177.1, decide (bt177.1 ≤ a2))) else (some (bt177.1, false))) else (some (bt177.1, false)))) = some (r1, r2) := h
 clear h
 replace H := Option.bind_eq_some_iff.mp H
 obtain ⟨⟨t177, t178⟩, A40, H⟩ := H
 replace H : (if t178 = true then (if t177 ≥ a1 then (some (t177, decide (t177 ≤ a2))) else (some (t177, false))) else (some (t177, false))) = some (r1, r2) := H
 have A4 := Aside0.mk A40
 clear A40
 by_cases c5 : t178 = true
 · subst c5
   have H1 : (if t177 ≥ a1 then (some (t177, decide (t177 ≤ a2))) else (some (t177, false))) = some (r1, r2) := by rw [if_pos rfl] at H; exact H
   clear H
   have H := H1
   clear H1
   by_cases c6 : t177 ≥ a1
   · rw [if_pos c6] at H
     have c6b0 : decide (a1 ≤ t177) = true := decide_eq_true c6
     clear c6
     simp only [Option.some.injEq, Prod.mk.injEq] at H
     obtain ⟨rfl, rfl⟩ := H
     go_enter Tryz.func119, Tryz.ntmps119
     go_wp2_with (first | ((with_reducible refine gate_callee (f := 135) rfl ?_); refine goesL_ (some 12) rfl rfl Tryz.func135 (by kernel_rfl) rfl #[.string a0] rfl (by (try simp only [List.map_toArray, List.map_cons, List.map_nil]); first | done | rfl | (simp only [List.length_drop, List.length_take]; rfl)) ?_; (with_reducible refine (culvertref25_Number.calls k a0 t177 true _ A4.out).mono ?_); rintro e w' ⟨rfl, ⟨nd, rfl⟩⟩; refine ⟨_, rfl, ?_⟩))
     go_ret2
     exact ⟨by first | rfl | (simp; done) | (simp [*]; done), by repeat (first | exact Drawn0.refl _ | apply Drawn0.step)⟩
   · rw [if_neg c6] at H
     have c6b0 : decide (a1 ≤ t177) = false := decide_eq_false c6
     clear c6
     simp only [Option.some.injEq, Prod.mk.injEq] at H
     obtain ⟨rfl, rfl⟩ := H
     go_enter Tryz.func119, Tryz.ntmps119
     go_wp2_with (first | ((with_reducible refine gate_callee (f := 135) rfl ?_); refine goesL_ (some 12) rfl rfl Tryz.func135 (by kernel_rfl) rfl #[.string a0] rfl (by (try simp only [List.map_toArray, List.map_cons, List.map_nil]); first | done | rfl | (simp only [List.length_drop, List.length_take]; rfl)) ?_; (with_reducible refine (culvertref25_Number.calls k a0 t177 true _ A4.out).mono ?_); rintro e w' ⟨rfl, ⟨nd, rfl⟩⟩; refine ⟨_, rfl, ?_⟩))
     go_ret2
     exact ⟨by first | rfl | (simp; done) | (simp [*]; done), by repeat (first | exact Drawn0.refl _ | apply Drawn0.step)⟩
 · replace c5 := Bool.eq_false_iff.mpr c5
   subst c5
   have H1 : (some (t177, false)) = some (r1, r2) := by rw [if_neg (show ¬ (false = true) by decide)] at H; exact H
   clear H
   have H := H1
   clear H1
   simp only [Option.some.injEq, Prod.mk.injEq] at H
   obtain ⟨rfl, rfl⟩ := H
   go_enter Tryz.func119, Tryz.ntmps119
   go_wp2_with (first | ((with_reducible refine gate_callee (f := 135) rfl ?_); refine goesL_ (some 12) rfl rfl Tryz.func135 (by kernel_rfl) rfl #[.string a0] rfl (by (try simp only [List.map_toArray, List.map_cons, List.map_nil]); first | done | rfl | (simp only [List.length_drop, List.length_take]; rfl)) ?_; (with_reducible refine (culvertref25_Number.calls k a0 t177 false _ A4.out).mono ?_); rintro e w' ⟨rfl, ⟨nd, rfl⟩⟩; refine ⟨_, rfl, ?_⟩))
   go_ret2
   exact ⟨by first | rfl | (simp; done) | (simp [*]; done), by repeat (first | exact Drawn0.refl _ | apply Drawn0.step)⟩
/-! ### culvertref25_plain: function 85 -/
def culvertref25_plain.f (a0 : Int) : Option (Bool) := if a0 ≥ 33 then (if a0 ≤ 126 then (some (a0 != 37)) else (some false)) else (some false)
set_option maxHeartbeats 8000000 in
set_option maxRecDepth 100000 in
theorem culvertref25_plain.calls (a0 : Int) (r : Bool) (w : World) (h : culvertref25_plain.f a0 = some r) :
    Calls Tryz.prog 85 #[.int .u8 a0] w fun e w' => e = .returned (.bool r) ∧ Drawn0 w w' := by
 have H : (if a0 ≥ 33 then (if a0 ≤ 126 then (some (a0 != 37)) else (some false)) else (some false)) = some r := h
 clear h
 by_cases c2 : a0 ≥ 33
 · rw [if_pos c2] at H
   have c2b0 : decide (33 ≤ a0) = true := decide_eq_true c2
   clear c2
   by_cases c3 : a0 ≤ 126
   · rw [if_pos c3] at H
     have c3b0 : decide (a0 ≤ 126) = true := decide_eq_true c3
     clear c3
     obtain rfl := Option.some.inj H
     go_enter Tryz.func85, Tryz.ntmps85
     go_wp2
     go_ret
     exact ⟨by first | rfl | (simp; done) | (simp [*]; done), by repeat (first | exact Drawn0.refl _ | apply Drawn0.step)⟩
   · rw [if_neg c3] at H
     have c3b0 : decide (a0 ≤ 126) = false := decide_eq_false c3
     clear c3
     obtain rfl := Option.some.inj H
     go_enter Tryz.func85, Tryz.ntmps85
     go_wp2
     go_ret
     exact ⟨by first | rfl | (simp; done) | (simp [*]; done), by repeat (first | exact Drawn0.refl _ | apply Drawn0.step)⟩
 · rw [if_neg c2] at H
   have c2b0 : decide (33 ≤ a0) = false := decide_eq_false c2
   clear c2
   obtain rfl := Option.some.inj H
   go_enter Tryz.func85, Tryz.ntmps85
   go_wp2
   go_ret
   exact ⟨by first | rfl | (simp; done) | (simp [*]; done), by repeat (first | exact Drawn0.refl _ | apply Drawn0.step)⟩
/-! ### culvertref25_digit: function 86 -/
def culvertref25_digit.f (a0 : Int) : Option (ByteArray) := if 0 ≤ a0 then (if a0 ≤ (wrap64 (a0 + 1)) then (if (wrap64 (a0 + 1)) ≤ 16 then (some ((⟨#[48, 49, 50, 51, 52, 53, 54, 55, 56, 57, 97, 98, 99, 100, 101, 102]⟩ : ByteArray).extract (a0 : Int).toNat ((wrap64 (a0 + 1)) : Int).toNat)) else (none)) else (none)) else (none)
set_option maxHeartbeats 8000000 in
set_option maxRecDepth 100000 in
theorem culvertref25_digit.calls (a0 : Int) (r : ByteArray) (w : World) (h : culvertref25_digit.f a0 = some r) :
    Calls Tryz.prog 86 #[.int .i64 a0] w fun e w' => e = .returned (.string r) ∧ Drawn0 w w' := by
 have H : (if 0 ≤ a0 then (if a0 ≤ (wrap64 (a0 + 1)) then (if (wrap64 (a0 + 1)) ≤ 16 then (some ((⟨#[48, 49, 50, 51, 52, 53, 54, 55, 56, 57, 97, 98, 99, 100, 101, 102]⟩ : ByteArray).extract (a0 : Int).toNat ((wrap64 (a0 + 1)) : Int).toNat)) else (none)) else (none)) else (none)) = some r := h
 clear h
 by_cases c2 : 0 ≤ a0
 · rw [if_pos c2] at H
   have c2b0 := eq_true c2
   have c2b1 : decide (0 ≤ a0) = true := decide_eq_true c2
   clear c2
   by_cases c3 : a0 ≤ (wrap64 (a0 + 1))
   · rw [if_pos c3] at H
     have c3b0 := eq_true c3
     have c3b1 : decide (a0 ≤ (wrap64 (a0 + 1))) = true := decide_eq_true c3
     by_cases c4 : (wrap64 (a0 + 1)) ≤ 16
     · rw [if_pos c4] at H
       have c4b0 := eq_true c4
       have c4b1 : decide ((wrap64 (a0 + 1)) ≤ 16) = true := decide_eq_true c4
       obtain rfl := Option.some.inj H
       go_enter Tryz.func86, Tryz.ntmps86
       go_wp2
       go_ret
       exact ⟨by first | rfl | (simp; done) | (simp [*]; done), by repeat (first | exact Drawn0.refl _ | apply Drawn0.step)⟩
     · rw [if_neg c4] at H
       exact absurd H (by simp)
   · rw [if_neg c3] at H
     exact absurd H (by simp)
 · rw [if_neg c2] at H
   exact absurd H (by simp)
/-! ### culvertref25_value: function 94 -/
def culvertref25_value.l0 : Nat → Int → Int → Option (Int)
 | 0, _, _ => none
 | k + 1, x0, x3 => if x3 < 16 then ((culvertref25_digit.f x3).bind fun t344 => (if 0 < (t344.size : Int) then (if (bt t344 0) = x0 then (some x3) else (culvertref25_value.l0 k x0 (wrap64 (x3 + 1)))) else (none))) else (some (-1))
def culvertref25_value.f (k : Nat) (a0 : Int) : Option (Int) := culvertref25_value.l0 k a0 0
theorem culvertref25_value.mono_l : ∀ k, (∀ y0 y1, LeO (culvertref25_value.l0 k y0 y1) (culvertref25_value.l0 (k + 1) y0 y1))
 | 0 => fun _ _ r h => by simp [culvertref25_value.l0] at h
 | k + 1 => by
   have ih0 := culvertref25_value.mono_l k
   · intro y0 y1
     unfold culvertref25_value.l0
     repeat' first
     | (with_reducible exact ih0 _ _)
     | (with_reducible exact LeO.refl _)
     | (with_reducible exact LeO.none _)
     | (with_reducible refine LeO.ite ?_ ?_)
     | (with_reducible refine LeO.bind ?_ (fun _ => ?_))
     | exact ih0 _ _
     | exact LeO.none _
     | refine LeO.ite ?_ ?_
     | refine LeO.bind ?_ (fun _ => ?_)
theorem culvertref25_value.mono : ∀ a0 k, LeO (culvertref25_value.f k a0) (culvertref25_value.f (k + 1) a0) := by
 intro a0 k
 have ih0 := culvertref25_value.mono_l k
 unfold culvertref25_value.f
 repeat' first
     | (with_reducible exact ih0 _ _)
     | (with_reducible exact LeO.refl _)
     | (with_reducible exact LeO.none _)
     | (with_reducible refine LeO.ite ?_ ?_)
     | (with_reducible refine LeO.bind ?_ (fun _ => ?_))
     | exact ih0 _ _
     | exact LeO.none _
     | refine LeO.ite ?_ ?_
     | refine LeO.bind ?_ (fun _ => ?_)
set_option maxHeartbeats 8000000 in
set_option maxRecDepth 100000 in
theorem culvertref25_value.calls (k : Nat) (a0 : Int) (r : Int) (w : World) (h : culvertref25_value.f k a0 = some r) :
    Calls Tryz.prog 94 #[.int .u8 a0] w fun e w' => e = .returned (.int .i64 r) ∧ Drawn0 w w' := by
 have H : (culvertref25_value.l0 k a0 0) = some r := h
 clear h
 have H' := Aside0.mk H
 clear H
 go_enter Tryz.func94, Tryz.ntmps94
 go_wp2
 go_loopg [3] k (fun kq v3 w' => ∃ (x3_1 : Int), v3 = .int .i64 x3_1 ∧ Aside0 (culvertref25_value.l0 kq a0 x3_1 = some r) ∧ Aside0 (kq ≤ k) ∧ Drawn0 w w')
 case atStart => exact ⟨(0), (by first | rfl | (simp; done) | (simp [*]; done)), H', ⟨Nat.le_refl _⟩, by repeat (first | exact Drawn0.refl _ | apply Drawn0.step)⟩
 case round =>
  clear H'
  obtain ⟨x3_1, rfl, HA, HK1, ⟨m1, rfl⟩⟩ := hrel
  cases gk with
  | zero => exact absurd HA.out (by simp [culvertref25_value.l0])
  | succ k1 =>
    have H := HA.out
    clear HA
    simp only [culvertref25_value.l0] at H
    by_cases c2 : x3_1 < 16
    · rw [if_pos c2] at H
      have c2b0 : decide (x3_1 < 16) = true := decide_eq_true c2
      clear c2
      replace H := Option.bind_eq_some_iff.mp H
      obtain ⟨t344, A30, H⟩ := H
      replace H : (if 0 < (t344.size : Int) then (if (bt t344 0) = a0 then (some x3_1) else (culvertref25_value.l0 k1 a0 (wrap64 (x3_1 + 1)))) else (none)) = some r := H
      have A3 := Aside0.mk A30
      clear A30
      by_cases c4 : 0 < (t344.size : Int)
      · rw [if_pos c4] at H
        have c4b0 : decide (0 < (t344.size : Int)) = true := decide_eq_true c4
        have c4b1 : decide (0 < t344.size) = true := decide_eq_true (by omega)
        clear c4
        by_cases c6 : (bt t344 0) = a0
        · rw [if_pos c6] at H
          have c6b0 : ((bt t344 0) == a0) = true := beq_iff_eq.mpr c6
          have c6b1 : ((bt t344 0) != a0) = false := bne_eq_false_iff_eq.mpr c6
          clear c6
          obtain rfl := Option.some.inj H
          go_wp2_with (first | ((with_reducible refine gate_callee (f := 86) rfl ?_); refine goesL_ (some 10) rfl rfl Tryz.func86 (by kernel_rfl) rfl #[.int .i64 x3_1] rfl (by (try simp only [List.map_toArray, List.map_cons, List.map_nil]); first | done | rfl | (simp only [List.length_drop, List.length_take]; rfl)) ?_; (with_reducible refine (culvertref25_digit.calls x3_1 t344 _ A3.out).mono ?_); rintro e w' ⟨rfl, ⟨nd, rfl⟩⟩; refine ⟨_, rfl, ?_⟩; have p5 : 0 ≤ (0 : Int) := (by omega); have q5 : 0 < t344.size := (by have : (0 : Int) < (t344.size : Int) := of_decide_eq_true (by first | (with_reducible assumption) | assumption); omega); have hx5 : ∀ h : 0 < t344.size, ((t344[0]'h).toNat : Int) = bt t344 0 := bt_at t344 0; clear p5; have qi5 : (0 < (t344.size : Int)) = True := eq_true (of_decide_eq_true (by first | (with_reducible assumption) | assumption)); replace q5 := eq_true q5))
          go_ret
          exact ⟨by first | rfl | (simp; done) | (simp [*]; done), by repeat (first | exact Drawn0.refl _ | apply Drawn0.step)⟩
        · rw [if_neg c6] at H
          have c6b0 : ((bt t344 0) == a0) = false := beq_eq_false_iff_ne.mpr c6
          have c6b1 : ((bt t344 0) != a0) = true := bne_iff_ne.mpr c6
          have H' := Aside0.mk H
          clear H
          go_wp2_with (first | ((with_reducible refine gate_callee (f := 86) rfl ?_); refine goesL_ (some 10) rfl rfl Tryz.func86 (by kernel_rfl) rfl #[.int .i64 x3_1] rfl (by (try simp only [List.map_toArray, List.map_cons, List.map_nil]); first | done | rfl | (simp only [List.length_drop, List.length_take]; rfl)) ?_; (with_reducible refine (culvertref25_digit.calls x3_1 t344 _ A3.out).mono ?_); rintro e w' ⟨rfl, ⟨nd, rfl⟩⟩; refine ⟨_, rfl, ?_⟩; have p5 : 0 ≤ (0 : Int) := (by omega); have q5 : 0 < t344.size := (by have : (0 : Int) < (t344.size : Int) := of_decide_eq_true (by first | (with_reducible assumption) | assumption); omega); have hx5 : ∀ h : 0 < t344.size, ((t344[0]'h).toNat : Int) = bt t344 0 := bt_at t344 0; clear p5; have qi5 : (0 < (t344.size : Int)) = True := eq_true (of_decide_eq_true (by first | (with_reducible assumption) | assumption)); replace q5 := eq_true q5))
          go_roundg k1
          case measure => have := HK1.out; omega
          case rel => exact ⟨(wrap64 (x3_1 + 1)), (by first | rfl | (simp; done) | (simp [*]; done)), H', ⟨by have := HK1.out; omega⟩, by repeat (first | exact Drawn0.refl _ | apply Drawn0.step)⟩
      · rw [if_neg c4] at H
        exact absurd H (by simp)
    · rw [if_neg c2] at H
      have c2b0 : decide (x3_1 < 16) = false := decide_eq_false c2
      clear c2
      obtain rfl := Option.some.inj H
      go_wp2
      go_ret
      exact ⟨by first | rfl | (simp; done) | (simp [*]; done), by repeat (first | exact Drawn0.refl _ | apply Drawn0.step)⟩
/-! ### culvertref25_Read: function 56 -/
mutual
def culvertref25_Read.l0 : Nat → ByteArray → List Int → Int → Option (List Int × Int)
 | 0, _, _, _ => none
 | k + 1, x0, x4, x5 => if x5 < (x0.size : Int) then (if 0 ≤ x5 then (if (bt x0 x5) = 37 then (if (wrap64 (x5 + 2)) ≥ (x0.size : Int) then (some (([] : List Int), 41)) else (if 0 ≤ (wrap64 (x5 + 1)) then (if (wrap64 (x5 + 1)) < (x0.size : Int) then ((culvertref25_value.f k (bt x0 (wrap64 (x5 + 1)))).bind fun t349 => (if 0 ≤ (wrap64 (x5 + 2)) then (if (wrap64 (x5 + 2)) < (x0.size : Int) then ((culvertref25_value.f k (bt x0 (wrap64 (x5 + 2)))).bind fun t350 => (if t349 < 0 then (culvertref25_Read.j1 k x0 x4 x5 t349 t350 true) else (culvertref25_Read.j1 k x0 x4 x5 t349 t350 (decide (t350 < 0))))) else (none)) else (none))) else (none)) else (none))) else ((culvertref25_plain.f (bt x0 x5)).bind fun t345 => (if t345 = true then (if x4.length < 140737488355328 then (culvertref25_Read.l0 k x0 (x4 ++ [bt x0 x5]) (wrap64 (x5 + 1))) else (none)) else (some (([] : List Int), 41))))) else (none)) else (some (x4, 0))
def culvertref25_Read.j1 : Nat → ByteArray → List Int → Int → Int → Int → Bool → Option (List Int × Int)
 | 0, _, _, _, _, _, _ => none
 | k + 1, x0, x4, x5, x7, x8, x57 => if x57 = true then (some (([] : List Int), 41)) else ((culvertref25_plain.f ((wrap64 ((wrap64 (16 * x7)) + x8)) % 256)).bind fun t351 => (if t351 = true then (some (([] : List Int), 41)) else (if x4.length < 140737488355328 then (culvertref25_Read.l0 k x0 (x4 ++ [(wrap64 ((wrap64 (16 * x7)) + x8)) % 256]) (wrap64 ((wrap64 (x5 + 2)) + 1))) else (none))))
end
def culvertref25_Read.f (k : Nat) (a0 : ByteArray) : Option (List Int × Int) := if a0.toList = ([37] : List UInt8) then (some (([] : List Int), 0)) else (if a0.toList = ([] : List UInt8) then (some (([] : List Int), 41)) else (culvertref25_Read.l0 k a0 ([] : List Int) 0))
set_option maxHeartbeats 8000000 in
set_option maxRecDepth 100000 in
theorem culvertref25_Read.calls (k : Nat) (a0 : ByteArray) (r1 : List Int) (r2 : Int) (w : World) (h : culvertref25_Read.f k a0 = some (r1, r2)) :
    Calls Tryz.prog 56 #[.string a0] w fun e w' => ∃ v0_ : Value, e = .returned (.tuple #[v0_, .int .i64 r2]) ∧ Kd.R (Kd.int .u8) 5 w' w.heap.size (fun _ => True) v0_ r1 ∧ Below w.heap.size w w' := by
 have HB := Aside0.mk (Below.refl w.heap.size w)
 have H : (if a0.toList = ([37] : List UInt8) then (some (([] : List Int), 0)) else (if a0.toList = ([] : List UInt8) then (some (([] : List Int), 41)) else (culvertref25_Read.l0 k a0 ([] : List Int) 0))) = some (r1, r2) := h
 clear h
 by_cases c2 : a0.toList = ([37] : List UInt8)
 · rw [if_pos c2] at H
   have c2b0 : (a0.toList == ([37] : List UInt8)) = true := beq_iff_eq.mpr c2
   have c2b1 : (a0.toList != ([37] : List UInt8)) = false := bne_eq_false_iff_eq.mpr c2
   clear c2
   simp only [Option.some.injEq, Prod.mk.injEq] at H
   obtain ⟨rfl, rfl⟩ := H
   go_enter Tryz.func56, Tryz.ntmps56
   go_wp2
   go_ret2
   exact ⟨_, by first | rfl | (simp [errW_none, errW_some] <;> rfl) | (simp [*, errW_none, errW_some] <;> rfl), by first | exact Kd.R_nil _ _ _ _ _ | exact Kd.N_nil _ _ _ _ _ | exact Kd.V_nil _ _ _ _ _ | exact Kd.Q_nil _ _ _ _ _ | exact Kd.S_nil _ _ _ _ _, by repeat (first | (with_reducible first | exact HB.out | apply below_alloc | apply pw_below_drewN | apply below_drew1) | exact HB.out)⟩
 · rw [if_neg c2] at H
   have c2b0 : (a0.toList == ([37] : List UInt8)) = false := beq_eq_false_iff_ne.mpr c2
   have c2b1 : (a0.toList != ([37] : List UInt8)) = true := bne_iff_ne.mpr c2
   by_cases c3 : a0.toList = ([] : List UInt8)
   · rw [if_pos c3] at H
     have c3b0 : (a0.toList == ([] : List UInt8)) = true := beq_iff_eq.mpr c3
     have c3b1 : (a0.toList != ([] : List UInt8)) = false := bne_eq_false_iff_eq.mpr c3
     clear c3
     simp only [Option.some.injEq, Prod.mk.injEq] at H
     obtain ⟨rfl, rfl⟩ := H
     go_enter Tryz.func56, Tryz.ntmps56
     go_wp2
     go_ret2
     exact ⟨_, by first | rfl | (simp [errW_none, errW_some] <;> rfl) | (simp [*, errW_none, errW_some] <;> rfl), by first | exact Kd.R_nil _ _ _ _ _ | exact Kd.N_nil _ _ _ _ _ | exact Kd.V_nil _ _ _ _ _ | exact Kd.Q_nil _ _ _ _ _ | exact Kd.S_nil _ _ _ _ _, by repeat (first | (with_reducible first | exact HB.out | apply below_alloc | apply pw_below_drewN | apply below_drew1) | exact HB.out)⟩
   · rw [if_neg c3] at H
     have c3b0 : (a0.toList == ([] : List UInt8)) = false := beq_eq_false_iff_ne.mpr c3
     have c3b1 : (a0.toList != ([] : List UInt8)) = true := bne_iff_ne.mpr c3
     have H' := Aside0.mk H
     clear H
     go_enter Tryz.func56, Tryz.ntmps56
     go_wp2
     go_loopg [4, 5] k (fun kq v4 v5 w' => ∃ (x4_1 : List Int) (x5_1 : Int), v5 = .int .i64 x5_1 ∧ Aside0 (culvertref25_Read.l0 kq a0 x4_1 x5_1 = some (r1, r2)) ∧ Aside0 (kq ≤ k) ∧ Aside0 (Kd.R (Kd.int .u8) 5 w' w.heap.size (fun _ => True) v4 x4_1) ∧ Aside0 (Below w.heap.size w w'))
     case atStart => exact ⟨(([] : List Int)), (0), (by first | rfl | (simp; done) | (simp [*]; done)), H', ⟨Nat.le_refl _⟩, ⟨by first | exact Kd.R_nil _ _ _ _ _ | exact Kd.N_nil _ _ _ _ _ | exact Kd.V_nil _ _ _ _ _ | exact Kd.Q_nil _ _ _ _ _ | exact Kd.S_nil _ _ _ _ _⟩, ⟨by repeat (first | (with_reducible first | exact HB.out | apply below_alloc | apply pw_below_drewN | apply below_drew1) | exact HB.out)⟩⟩
     case round =>
      clear H'
      try clear c2
      try clear c2b0
      try clear c2b1
      try clear p2
      try clear c3
      try clear c3b0
      try clear c3b1
      obtain ⟨x4_1, x5_1, rfl, HA, HK1, HO_4, HB⟩ := hrel
      cases gk with
      | zero => exact absurd HA.out (by simp [culvertref25_Read.l0])
      | succ k1 =>
        have H := HA.out
        clear HA
        simp only [culvertref25_Read.l0] at H
        by_cases c4 : x5_1 < (a0.size : Int)
        · rw [if_pos c4] at H
          have c4b0 : decide (x5_1 < (a0.size : Int)) = true := decide_eq_true c4
          clear c4
          by_cases c5 : 0 ≤ x5_1
          · rw [if_pos c5] at H
            have c5b0 : decide (0 ≤ x5_1) = true := decide_eq_true c5
            clear c5
            by_cases c7 : (bt a0 x5_1) = 37
            · rw [if_pos c7] at H
              have c7b0 : ((bt a0 x5_1) == 37) = true := beq_iff_eq.mpr c7
              have c7b1 : ((bt a0 x5_1) != 37) = false := bne_eq_false_iff_eq.mpr c7
              clear c7
              by_cases c8 : (wrap64 (x5_1 + 2)) ≥ (a0.size : Int)
              · rw [if_pos c8] at H
                have c8b0 : decide ((a0.size : Int) ≤ (wrap64 (x5_1 + 2))) = true := decide_eq_true c8
                clear c8
                simp only [Option.some.injEq, Prod.mk.injEq] at H
                obtain ⟨rfl, rfl⟩ := H
                have p6 : 0 ≤ (x5_1 : Int) := of_decide_eq_true (by first | (with_reducible assumption) | assumption)
                have q6 : x5_1 < (a0.size : Int) := of_decide_eq_true (by first | (with_reducible assumption) | assumption)
                have hx6 := bt_at a0 x5_1
                replace p6 := eq_true p6
                replace q6 := eq_true q6
                go_wp2
                go_ret2
                exact ⟨_, by first | rfl | (simp [errW_none, errW_some] <;> rfl) | (simp [*, errW_none, errW_some] <;> rfl), by first | exact Kd.R_nil _ _ _ _ _ | exact Kd.N_nil _ _ _ _ _ | exact Kd.V_nil _ _ _ _ _ | exact Kd.Q_nil _ _ _ _ _ | exact Kd.S_nil _ _ _ _ _, by repeat (first | (with_reducible first | exact HB.out | apply below_alloc | apply pw_below_drewN | apply below_drew1) | exact HB.out)⟩
              · rw [if_neg c8] at H
                have c8b0 : decide ((a0.size : Int) ≤ (wrap64 (x5_1 + 2))) = false := decide_eq_false c8
                clear c8
                obtain ⟨ji9, hji9⟩ : ∃ j_ : Int, (wrap64 (x5_1 + 1)) = j_ := ⟨_, rfl⟩
                replace H : (if 0 ≤ (ji9) then (if (ji9) < (a0.size : Int) then ((culvertref25_value.f k1 (bt a0 (ji9))).bind fun t349 => (if 0 ≤ (wrap64 (x5_1 + 2)) then (if (wrap64 (x5_1 + 2)) < (a0.size : Int) then ((culvertref25_value.f k1 (bt a0 (wrap64 (x5_1 + 2)))).bind fun t350 => (if t349 < 0 then (culvertref25_Read.j1 k1 a0 x4_1 x5_1 t349 t350 true) else (culvertref25_Read.j1 k1 a0 x4_1 x5_1 t349 t350 (decide (t350 < 0))))) else (none)) else (none))) else (none)) else (none)) = some (r1, r2) := by first | (rw [hji9] at H; exact H) | (simp only [hji9] at H ⊢; exact H)
                have hji9w : (IntKind.i64.wrap (x5_1 + 1)) = ji9 := (i64_w _).trans hji9
                by_cases c10 : 0 ≤ (ji9)
                · rw [if_pos c10] at H
                  have c10b0 : decide (0 ≤ (ji9)) = true := decide_eq_true c10
                  clear c10
                  by_cases c11 : (ji9) < (a0.size : Int)
                  · rw [if_pos c11] at H
                    have c11b0 : decide ((ji9) < (a0.size : Int)) = true := decide_eq_true c11
                    clear c11
                    replace H := Option.bind_eq_some_iff.mp H
                    obtain ⟨t349, A130, H⟩ := H
                    replace H : (if 0 ≤ (wrap64 (x5_1 + 2)) then (if (wrap64 (x5_1 + 2)) < (a0.size : Int) then ((culvertref25_value.f k1 (bt a0 (wrap64 (x5_1 + 2)))).bind fun t350 => (if t349 < 0 then (culvertref25_Read.j1 k1 a0 x4_1 x5_1 t349 t350 true) else (culvertref25_Read.j1 k1 a0 x4_1 x5_1 t349 t350 (decide (t350 < 0))))) else (none)) else (none)) = some (r1, r2) := H
                    have A13 := Aside0.mk A130
                    clear A130
                    obtain ⟨ji14, hji14⟩ : ∃ j_ : Int, (wrap64 (x5_1 + 2)) = j_ := ⟨_, rfl⟩
                    replace H : (if 0 ≤ (ji14) then (if (ji14) < (a0.size : Int) then ((culvertref25_value.f k1 (bt a0 (ji14))).bind fun t350 => (if t349 < 0 then (culvertref25_Read.j1 k1 a0 x4_1 x5_1 t349 t350 true) else (culvertref25_Read.j1 k1 a0 x4_1 x5_1 t349 t350 (decide (t350 < 0))))) else (none)) else (none)) = some (r1, r2) := by first | (rw [hji14] at H; exact H) | (simp only [hji14] at H ⊢; exact H)
                    (try rw [hji14] at c8b0)
                    (try rw [hji14] at A13)
                    have hji14w : (IntKind.i64.wrap (x5_1 + 2)) = ji14 := (i64_w _).trans hji14
                    by_cases c15 : 0 ≤ (ji14)
                    · rw [if_pos c15] at H
                      have c15b0 : decide (0 ≤ (ji14)) = true := decide_eq_true c15
                      clear c15
                      by_cases c16 : (ji14) < (a0.size : Int)
                      · rw [if_pos c16] at H
                        have c16b0 : decide ((ji14) < (a0.size : Int)) = true := decide_eq_true c16
                        clear c16
                        replace H := Option.bind_eq_some_iff.mp H
                        obtain ⟨t350, A180, H⟩ := H
                        replace H : (if t349 < 0 then (culvertref25_Read.j1 k1 a0 x4_1 x5_1 t349 t350 true) else (culvertref25_Read.j1 k1 a0 x4_1 x5_1 t349 t350 (decide (t350 < 0)))) = some (r1, r2) := H
                        have A18 := Aside0.mk A180
                        clear A180
                        have HC19 := Aside0.mk H
                        clear H
                        have p6 : 0 ≤ (x5_1 : Int) := of_decide_eq_true (by first | (with_reducible assumption) | assumption)
                        have q6 : x5_1 < (a0.size : Int) := of_decide_eq_true (by first | (with_reducible assumption) | assumption)
                        have hx6 := bt_at a0 x5_1
                        replace p6 := eq_true p6
                        replace q6 := eq_true q6
                        have p12 : 0 ≤ ((ji9) : Int) := of_decide_eq_true (by first | (with_reducible assumption) | assumption)
                        have q12 : (ji9) < (a0.size : Int) := of_decide_eq_true (by first | (with_reducible assumption) | assumption)
                        have hx12 := bt_at a0 (ji9)
                        replace p12 := eq_true p12
                        replace q12 := eq_true q12
                        go_upto_region 18 with (first | ((with_reducible refine gate_callee (f := 94) rfl ?_); refine goesL_ (some 46) rfl rfl Tryz.func94 (by kernel_rfl) rfl #[.int .u8 (bt a0 (ji9))] rfl (by (try simp only [List.map_toArray, List.map_cons, List.map_nil]); first | done | (simp only [hji9]; rfl) | rfl | (simp only [List.length_drop, List.length_take]; rfl)) ?_; (with_reducible refine (culvertref25_value.calls k1 (bt a0 (ji9)) t349 _ A13.out).mono ?_); rintro e w' ⟨rfl, ⟨nd, rfl⟩⟩; refine ⟨_, rfl, ?_⟩; have p17 : 0 ≤ ((ji14) : Int) := of_decide_eq_true (by first | (with_reducible assumption) | assumption); have q17 : (ji14) < (a0.size : Int) := of_decide_eq_true (by first | (with_reducible assumption) | assumption); have hx17 := bt_at a0 (ji14); replace p17 := eq_true p17; replace q17 := eq_true q17) | ((with_reducible refine gate_callee (f := 94) rfl ?_); refine goesL_ (some 51) rfl rfl Tryz.func94 (by kernel_rfl) rfl #[.int .u8 (bt a0 (ji14))] rfl (by (try simp only [List.map_toArray, List.map_cons, List.map_nil]); first | done | (simp only [hji14]; rfl) | rfl | (simp only [List.length_drop, List.length_take]; rfl)) ?_; (with_reducible refine (culvertref25_value.calls k1 (bt a0 (ji14)) t350 _ A18.out).mono ?_); rintro e w' ⟨rfl, ⟨nd, rfl⟩⟩; refine ⟨_, rfl, ?_⟩))
                        (try simp only [Act.put, List.setIfInBounds_toArray, List.set_cons_zero, List.set_cons_succ])
                        go_cut [57] (fun v57 wc => ∃ (kq : Nat) (x57_18 : Bool), v57 = .bool x57_18 ∧ Aside0 (culvertref25_Read.j1 kq a0 x4_1 x5_1 t349 t350 x57_18 = some (r1, r2)) ∧ Aside0 (kq ≤ k1) ∧ Aside0 (Kd.R (Kd.int .u8) 5 wc w.heap.size (fun _ => True) u4 x4_1) ∧ Aside0 (Below w.heap.size w wc))
                        case first =>
                         have H := HC19.out
                         clear HC19
                         by_cases c20 : t349 < 0
                         · rw [if_pos c20] at H
                           have c20b0 : decide (t349 < 0) = true := decide_eq_true c20
                           clear c20
                           (first | rw [c20b0] | (simp only [i64_w, i32_w]; rw [c20b0]) | skip)
                           have H' := Aside0.mk H
                           clear H
                           go_wp2
                           go_meet
                           case rel => exact ⟨_, (true), (by first | rfl | (simp; done) | (simp [*]; done)), H', ⟨by have := HK1.out; first | omega | exact Nat.le_refl _⟩, ⟨by (with_reducible repeat (first | apply Kd.R_alloc | apply Kd.R_drewN | apply Kd.R_drew)); exact HO_4.out⟩, ⟨by repeat (first | (with_reducible first | exact HB.out | apply below_alloc | apply pw_below_drewN | apply below_drew1) | exact HB.out)⟩⟩
                         · rw [if_neg c20] at H
                           have c20b0 : decide (t349 < 0) = false := decide_eq_false c20
                           clear c20
                           (first | rw [c20b0] | (simp only [i64_w, i32_w]; rw [c20b0]) | skip)
                           have H' := Aside0.mk H
                           clear H
                           go_wp2
                           go_meet
                           case rel => exact ⟨_, (decide (t350 < 0)), (by first | rfl | (simp; done) | (simp [*]; done)), H', ⟨by have := HK1.out; first | omega | exact Nat.le_refl _⟩, ⟨by (with_reducible repeat (first | apply Kd.R_alloc | apply Kd.R_drewN | apply Kd.R_drew)); exact HO_4.out⟩, ⟨by repeat (first | (with_reducible first | exact HB.out | apply below_alloc | apply pw_below_drewN | apply below_drew1) | exact HB.out)⟩⟩
                        case rest =>
                         clear HC19
                         try clear c1
                         try clear p1
                         try clear q1
                         try clear hx1
                         try clear c2
                         try clear c2b0
                         try clear c2b1
                         try clear p2
                         try clear c3
                         try clear c3b0
                         try clear c3b1
                         try clear c4
                         try clear c4b0
                         try clear c5
                         try clear c5b0
                         try clear p6
                         try clear q6
                         try clear hx6
                         try clear c7
                         try clear c7b0
                         try clear c7b1
                         try clear c8
                         try clear c8b0
                         try clear c9
                         try clear c10
                         try clear c10b0
                         try clear c11
                         try clear c11b0
                         try clear p12
                         try clear q12
                         try clear hx12
                         try clear c15
                         try clear c15b0
                         try clear c16
                         try clear c16b0
                         try clear p17
                         try clear q17
                         try clear hx17
                         try clear c20
                         try clear c20b0
                         try clear p12
                         try clear p17
                         try clear p2
                         try clear p6
                         try clear q12
                         try clear q17
                         try clear q6
                         obtain ⟨kq, x57_18, rfl, HA, HJ18, HO_4, HB⟩ := hcut
                         cases kq with
                         | zero => exact absurd HA.out (by simp [culvertref25_Read.j1])
                         | succ kj18 =>
                           have H := HA.out
                           clear HA
                           simp only [culvertref25_Read.j1] at H
                           by_cases c21 : x57_18 = true
                           · subst c21
                             have H1 : (some (([] : List Int), 41)) = some (r1, r2) := by rw [if_pos rfl] at H; exact H
                             clear H
                             have H := H1
                             clear H1
                             simp only [Option.some.injEq, Prod.mk.injEq] at H
                             obtain ⟨rfl, rfl⟩ := H
                             go_wp2
                             go_ret2
                             exact ⟨_, by first | rfl | (simp [errW_none, errW_some] <;> rfl) | (simp only [← hji9, ← hji14]; first | rfl | (simp [errW_none, errW_some] <;> rfl)) | (simp [*, errW_none, errW_some] <;> rfl), by first | exact Kd.R_nil _ _ _ _ _ | exact Kd.N_nil _ _ _ _ _ | exact Kd.V_nil _ _ _ _ _ | exact Kd.Q_nil _ _ _ _ _ | exact Kd.S_nil _ _ _ _ _, by repeat (first | (with_reducible first | exact HB.out | apply below_alloc | apply pw_below_drewN | apply below_drew1) | exact HB.out)⟩
                           · replace c21 := Bool.eq_false_iff.mpr c21
                             subst c21
                             have H1 : ((culvertref25_plain.f ((wrap64 ((wrap64 (16 * t349)) + t350)) % 256)).bind fun t351 => (if t351 = true then (some (([] : List Int), 41)) else (if x4_1.length < 140737488355328 then (culvertref25_Read.l0 kj18 a0 (x4_1 ++ [(wrap64 ((wrap64 (16 * t349)) + t350)) % 256]) (wrap64 ((wrap64 (x5_1 + 2)) + 1))) else (none)))) = some (r1, r2) := by rw [if_neg (show ¬ (false = true) by decide)] at H; exact H
                             clear H
                             have H := H1
                             clear H1
                             replace H := Option.bind_eq_some_iff.mp H
                             obtain ⟨t351, A220, H⟩ := H
                             replace H : (if t351 = true then (some (([] : List Int), 41)) else (if x4_1.length < 140737488355328 then (culvertref25_Read.l0 kj18 a0 (x4_1 ++ [(wrap64 ((wrap64 (16 * t349)) + t350)) % 256]) (wrap64 ((wrap64 (x5_1 + 2)) + 1))) else (none))) = some (r1, r2) := H
                             have A22 := Aside0.mk A220
                             clear A220
                             by_cases c23 : t351 = true
                             · subst c23
                               have H1 : (some (([] : List Int), 41)) = some (r1, r2) := by rw [if_pos rfl] at H; exact H
                               clear H
                               have H := H1
                               clear H1
                               simp only [Option.some.injEq, Prod.mk.injEq] at H
                               obtain ⟨rfl, rfl⟩ := H
                               go_wp2_with (first | ((with_reducible refine gate_callee (f := 85) rfl ?_); refine goesL_ (some 64) rfl rfl Tryz.func85 (by kernel_rfl) rfl #[.int .u8 ((wrap64 ((wrap64 (16 * t349)) + t350)) % 256)] rfl (by (try simp only [List.map_toArray, List.map_cons, List.map_nil]); first | done | rfl | (simp only [List.length_drop, List.length_take]; rfl)) ?_; (with_reducible refine (culvertref25_plain.calls ((wrap64 ((wrap64 (16 * t349)) + t350)) % 256) true _ A22.out).mono ?_); rintro e w' ⟨rfl, ⟨nd, rfl⟩⟩; refine ⟨_, rfl, ?_⟩))
                               go_ret2
                               exact ⟨_, by first | rfl | (simp [errW_none, errW_some] <;> rfl) | (simp only [← hji9, ← hji14]; first | rfl | (simp [errW_none, errW_some] <;> rfl)) | (simp [*, errW_none, errW_some] <;> rfl), by first | exact Kd.R_nil _ _ _ _ _ | exact Kd.N_nil _ _ _ _ _ | exact Kd.V_nil _ _ _ _ _ | exact Kd.Q_nil _ _ _ _ _ | exact Kd.S_nil _ _ _ _ _, by repeat (first | (with_reducible first | exact HB.out | apply below_alloc | apply pw_below_drewN | apply below_drew1) | exact HB.out)⟩
                             · replace c23 := Bool.eq_false_iff.mpr c23
                               subst c23
                               have H1 : (if x4_1.length < 140737488355328 then (culvertref25_Read.l0 kj18 a0 (x4_1 ++ [(wrap64 ((wrap64 (16 * t349)) + t350)) % 256]) (wrap64 ((wrap64 (x5_1 + 2)) + 1))) else (none)) = some (r1, r2) := by rw [if_neg (show ¬ (false = true) by decide)] at H; exact H
                               clear H
                               have H := H1
                               clear H1
                               by_cases c24 : x4_1.length < 140737488355328
                               · rw [if_pos c24] at H
                                 have LMc24 := Aside0.mk c24
                                 clear c24
                                 obtain ⟨y352, hy352⟩ : ∃ y_ : List Int, y_ = (x4_1 ++ [(wrap64 ((wrap64 (16 * t349)) + t350)) % 256]) := ⟨_, rfl⟩
                                 replace H : (culvertref25_Read.l0 kj18 a0 y352 (wrap64 ((wrap64 (x5_1 + 2)) + 1))) = some (r1, r2) := by first | (rw [hy352]; with_reducible exact H) | (have H2_ := (Option.bind_some _ _).symm.trans H; rw [hy352]; with_reducible exact H2_) | (have H2_ := (Option.bind_some _ _).symm.trans H; with_reducible exact H2_) | with_reducible exact H | (rw [hy352]; exact H) | exact H
                                 have Ny352 := Aside0.mk hy352
                                 clear hy352
                                 have H' := Aside0.mk H
                                 clear H
                                 go_wp2_with (first | ((with_reducible refine gate_callee (f := 85) rfl ?_); refine goesL_ (some 64) rfl rfl Tryz.func85 (by kernel_rfl) rfl #[.int .u8 ((wrap64 ((wrap64 (16 * t349)) + t350)) % 256)] rfl (by (try simp only [List.map_toArray, List.map_cons, List.map_nil]); first | done | rfl | (simp only [List.length_drop, List.length_take]; rfl)) ?_; (with_reducible refine (culvertref25_plain.calls ((wrap64 ((wrap64 (16 * t349)) + t350)) % 256) false _ A22.out).mono ?_); rintro e w' ⟨rfl, ⟨nd, rfl⟩⟩; refine ⟨_, rfl, ?_⟩) | ((with_reducible refine gate_builtin (b := .append) (xs := #[.tmp 66, .tmp 68]) rfl ?_); at_builtin; refine Kd.R_append (Kd.int .u8) (w0 := w) w.heap.size rfl (.tmp 66) (.tmp 68) 26 5 (.int .u8 0) 1 rfl Tryz.underlying26 info5 rfl (by decide) (by omega) u4 x4_1 ((wrap64 ((wrap64 (16 * t349)) + t350)) % 256) [.int .u8 ((wrap64 ((wrap64 (16 * t349)) + t350)) % 256)] (fun _ => True) (fun _ => False) rfl rfl ?aP (fun _ hk => hk.elim) ?aF ?aO ?aB ?aS ?aL ?_; (case aP => exact rfl); (case aB => exact (by repeat (first | (with_reducible first | exact HB.out | apply below_alloc | apply pw_below_drewN | apply below_drew1) | exact HB.out))); (case aF => exact (fun _ _ => trivial)); (case aO => exact (by (with_reducible repeat (first | apply Kd.R_alloc | apply Kd.R_drewN | apply Kd.R_drew)); exact HO_4.out)); (case aS => exact (below_size (by repeat (first | (with_reducible first | exact HB.out | apply below_alloc | apply pw_below_drewN | apply below_drew1) | exact HB.out)))); (case aL => have := LMc24.out; omega); intro v353 w25 ho hb hg hat; rw [← Ny352.out] at ho; have n0_ := Aside0.mk (hb); have n1_ := Aside0.mk (ho); clear HB; clear HO_4; have HB := n0_; have HO354 := n1_; clear n0_ n1_; clear ho hb hg hat))
                                 go_roundg kj18
                                 case measure => have := HK1.out; have := HJ18.out; omega
                                 case rel => exact ⟨(y352), (wrap64 ((wrap64 (x5_1 + 2)) + 1)), (by first | rfl | (simp; done) | (simp [*]; done)), H', ⟨by have := HK1.out; have := HJ18.out; omega⟩, ⟨by (with_reducible repeat (first | apply Kd.R_alloc | apply Kd.R_drewN | apply Kd.R_drew)); exact HO354.out⟩, ⟨by repeat (first | (with_reducible first | exact HB.out | apply below_alloc | apply pw_below_drewN | apply below_drew1) | exact HB.out)⟩⟩
                               · rw [if_neg c24] at H
                                 exact absurd H (by simp)
                      · rw [if_neg c16] at H
                        exact absurd H (by simp)
                    · rw [if_neg c15] at H
                      exact absurd H (by simp)
                  · rw [if_neg c11] at H
                    exact absurd H (by simp)
                · rw [if_neg c10] at H
                  exact absurd H (by simp)
            · rw [if_neg c7] at H
              have c7b0 : ((bt a0 x5_1) == 37) = false := beq_eq_false_iff_ne.mpr c7
              have c7b1 : ((bt a0 x5_1) != 37) = true := bne_iff_ne.mpr c7
              replace H := Option.bind_eq_some_iff.mp H
              obtain ⟨t345, A270, H⟩ := H
              replace H : (if t345 = true then (if x4_1.length < 140737488355328 then (culvertref25_Read.l0 k1 a0 (x4_1 ++ [bt a0 x5_1]) (wrap64 (x5_1 + 1))) else (none)) else (some (([] : List Int), 41))) = some (r1, r2) := H
              have A27 := Aside0.mk A270
              clear A270
              by_cases c28 : t345 = true
              · subst c28
                have H1 : (if x4_1.length < 140737488355328 then (culvertref25_Read.l0 k1 a0 (x4_1 ++ [bt a0 x5_1]) (wrap64 (x5_1 + 1))) else (none)) = some (r1, r2) := by rw [if_pos rfl] at H; exact H
                clear H
                have H := H1
                clear H1
                by_cases c30 : x4_1.length < 140737488355328
                · rw [if_pos c30] at H
                  have LMc30 := Aside0.mk c30
                  clear c30
                  obtain ⟨y346, hy346⟩ : ∃ y_ : List Int, y_ = (x4_1 ++ [bt a0 x5_1]) := ⟨_, rfl⟩
                  replace H : (culvertref25_Read.l0 k1 a0 y346 (wrap64 (x5_1 + 1))) = some (r1, r2) := by first | (rw [hy346]; with_reducible exact H) | (have H2_ := (Option.bind_some _ _).symm.trans H; rw [hy346]; with_reducible exact H2_) | (have H2_ := (Option.bind_some _ _).symm.trans H; with_reducible exact H2_) | with_reducible exact H | (rw [hy346]; exact H) | exact H
                  have Ny346 := Aside0.mk hy346
                  clear hy346
                  have H' := Aside0.mk H
                  clear H
                  have p6 : 0 ≤ (x5_1 : Int) := of_decide_eq_true (by first | (with_reducible assumption) | assumption)
                  have q6 : x5_1 < (a0.size : Int) := of_decide_eq_true (by first | (with_reducible assumption) | assumption)
                  have hx6 := bt_at a0 x5_1
                  replace p6 := eq_true p6
                  replace q6 := eq_true q6
                  have p26 : 0 ≤ (x5_1 : Int) := of_decide_eq_true (by first | (with_reducible assumption) | assumption)
                  have q26 : x5_1 < (a0.size : Int) := of_decide_eq_true (by first | (with_reducible assumption) | assumption)
                  have hx26 := bt_at a0 x5_1
                  replace p26 := eq_true p26
                  replace q26 := eq_true q26
                  go_wp2_with (first | ((with_reducible refine gate_callee (f := 85) rfl ?_); refine goesL_ (some 28) rfl rfl Tryz.func85 (by kernel_rfl) rfl #[.int .u8 (bt a0 x5_1)] rfl (by (try simp only [List.map_toArray, List.map_cons, List.map_nil]); first | done | rfl | (simp only [List.length_drop, List.length_take]; rfl)) ?_; (with_reducible refine (culvertref25_plain.calls (bt a0 x5_1) true _ A27.out).mono ?_); rintro e w' ⟨rfl, ⟨nd, rfl⟩⟩; refine ⟨_, rfl, ?_⟩; have p29 : 0 ≤ (x5_1 : Int) := of_decide_eq_true (by first | (with_reducible assumption) | assumption); have q29 : x5_1 < (a0.size : Int) := of_decide_eq_true (by first | (with_reducible assumption) | assumption); have hx29 := bt_at a0 x5_1; replace p29 := eq_true p29; replace q29 := eq_true q29) | ((with_reducible refine gate_builtin (b := .append) (xs := #[.tmp 31, .tmp 35]) rfl ?_); at_builtin; refine Kd.R_append (Kd.int .u8) (w0 := w) w.heap.size rfl (.tmp 31) (.tmp 35) 26 5 (.int .u8 0) 1 rfl Tryz.underlying26 info5 rfl (by decide) (by omega) u4 x4_1 (bt a0 x5_1) [.int .u8 (bt a0 x5_1)] (fun _ => True) (fun _ => False) rfl rfl ?aP (fun _ hk => hk.elim) ?aF ?aO ?aB ?aS ?aL ?_; (case aP => exact rfl); (case aB => exact (by repeat (first | (with_reducible first | exact HB.out | apply below_alloc | apply pw_below_drewN | apply below_drew1) | exact HB.out))); (case aF => exact (fun _ _ => trivial)); (case aO => exact (by (with_reducible repeat (first | apply Kd.R_alloc | apply Kd.R_drewN | apply Kd.R_drew)); exact HO_4.out)); (case aS => exact (below_size (by repeat (first | (with_reducible first | exact HB.out | apply below_alloc | apply pw_below_drewN | apply below_drew1) | exact HB.out)))); (case aL => have := LMc30.out; omega); intro v347 w31 ho hb hg hat; rw [← Ny346.out] at ho; have n0_ := Aside0.mk (hb); have n1_ := Aside0.mk (ho); clear HB; clear HO_4; have HB := n0_; have HO348 := n1_; clear n0_ n1_; clear ho hb hg hat))
                  go_roundg k1
                  case measure => have := HK1.out; omega
                  case rel => exact ⟨(y346), (wrap64 (x5_1 + 1)), (by first | rfl | (simp; done) | (simp [*]; done)), H', ⟨by have := HK1.out; omega⟩, ⟨by (with_reducible repeat (first | apply Kd.R_alloc | apply Kd.R_drewN | apply Kd.R_drew)); exact HO348.out⟩, ⟨by repeat (first | (with_reducible first | exact HB.out | apply below_alloc | apply pw_below_drewN | apply below_drew1) | exact HB.out)⟩⟩
                · rw [if_neg c30] at H
                  exact absurd H (by simp)
              · replace c28 := Bool.eq_false_iff.mpr c28
                subst c28
                have H1 : (some (([] : List Int), 41)) = some (r1, r2) := by rw [if_neg (show ¬ (false = true) by decide)] at H; exact H
                clear H
                have H := H1
                clear H1
                simp only [Option.some.injEq, Prod.mk.injEq] at H
                obtain ⟨rfl, rfl⟩ := H
                have p6 : 0 ≤ (x5_1 : Int) := of_decide_eq_true (by first | (with_reducible assumption) | assumption)
                have q6 : x5_1 < (a0.size : Int) := of_decide_eq_true (by first | (with_reducible assumption) | assumption)
                have hx6 := bt_at a0 x5_1
                replace p6 := eq_true p6
                replace q6 := eq_true q6
                have p26 : 0 ≤ (x5_1 : Int) := of_decide_eq_true (by first | (with_reducible assumption) | assumption)
                have q26 : x5_1 < (a0.size : Int) := of_decide_eq_true (by first | (with_reducible assumption) | assumption)
                have hx26 := bt_at a0 x5_1
                replace p26 := eq_true p26
                replace q26 := eq_true q26
                go_wp2_with (first | ((with_reducible refine gate_callee (f := 85) rfl ?_); refine goesL_ (some 28) rfl rfl Tryz.func85 (by kernel_rfl) rfl #[.int .u8 (bt a0 x5_1)] rfl (by (try simp only [List.map_toArray, List.map_cons, List.map_nil]); first | done | rfl | (simp only [List.length_drop, List.length_take]; rfl)) ?_; (with_reducible refine (culvertref25_plain.calls (bt a0 x5_1) false _ A27.out).mono ?_); rintro e w' ⟨rfl, ⟨nd, rfl⟩⟩; refine ⟨_, rfl, ?_⟩))
                go_ret2
                exact ⟨_, by first | rfl | (simp [errW_none, errW_some] <;> rfl) | (simp [*, errW_none, errW_some] <;> rfl), by first | exact Kd.R_nil _ _ _ _ _ | exact Kd.N_nil _ _ _ _ _ | exact Kd.V_nil _ _ _ _ _ | exact Kd.Q_nil _ _ _ _ _ | exact Kd.S_nil _ _ _ _ _, by repeat (first | (with_reducible first | exact HB.out | apply below_alloc | apply pw_below_drewN | apply below_drew1) | exact HB.out)⟩
          · rw [if_neg c5] at H
            exact absurd H (by simp)
        · rw [if_neg c4] at H
          have c4b0 : decide (x5_1 < (a0.size : Int)) = false := decide_eq_false c4
          clear c4
          simp only [Option.some.injEq, Prod.mk.injEq] at H
          obtain ⟨rfl, rfl⟩ := H
          go_wp2
          go_ret2
          exact ⟨_, by first | rfl | (simp [errW_none, errW_some] <;> rfl) | (simp [*, errW_none, errW_some] <;> rfl), by (with_reducible repeat (first | apply Kd.R_alloc | apply Kd.R_drewN | apply Kd.R_drew)); exact HO_4.out, by repeat (first | (with_reducible first | exact HB.out | apply below_alloc | apply pw_below_drewN | apply below_drew1) | exact HB.out)⟩
-- NOT PRINTED: function 20 (culvertref26_Parse)
/-! ### culvertref25_Lines: function 62 -/
def culvertref25_Lines.l0 : Nat → ByteArray → List ByteArray → Int → Int → Option (List ByteArray)
 | 0, _, _, _, _ => none
 | k + 1, x0, x3, x4, x5 => if x5 < (x0.size : Int) then (if 0 ≤ x5 then (if (bt x0 x5) = 10 then (if 0 ≤ x4 then (if x4 ≤ x5 then (if x5 ≤ (x0.size : Int) then (if x3.length < 8796093022208 then (culvertref25_Lines.l0 k x0 (x3 ++ [x0.extract (x4 : Int).toNat (x5 : Int).toNat]) (wrap64 (x5 + 1)) (wrap64 (x5 + 1))) else (none)) else (none)) else (none)) else (none)) else (culvertref25_Lines.l0 k x0 x3 x4 (wrap64 (x5 + 1)))) else (none)) else (if 0 ≤ x4 then (if x4 ≤ (x0.size : Int) then (if x3.length < 8796093022208 then (some (x3 ++ [x0.extract (x4 : Int).toNat x0.size])) else (none)) else (none)) else (none))
def culvertref25_Lines.f (k : Nat) (a0 : ByteArray) : Option (List ByteArray) := culvertref25_Lines.l0 k a0 ([] : List ByteArray) 0 0
set_option maxHeartbeats 8000000 in
set_option maxRecDepth 100000 in
theorem culvertref25_Lines.calls (k : Nat) (a0 : ByteArray) (r : List ByteArray) (w : World) (h : culvertref25_Lines.f k a0 = some r) :
    Calls Tryz.prog 62 #[.string a0] w fun e w' => ∃ v0_ : Value, e = .returned (v0_) ∧ Kd.R Kd.string 9 w' w.heap.size (fun _ => True) v0_ r ∧ Below w.heap.size w w' := by
 have HB := Aside0.mk (Below.refl w.heap.size w)
 have H : (culvertref25_Lines.l0 k a0 ([] : List ByteArray) 0 0) = some r := h
 clear h
 have H' := Aside0.mk H
 clear H
 go_enter Tryz.func62, Tryz.ntmps62
 go_wp2
 go_loopg [3, 4, 5] k (fun kq v3 v4 v5 w' => ∃ (x3_1 : List ByteArray) (x4_1 : Int) (x5_1 : Int), v4 = .int .i64 x4_1 ∧ v5 = .int .i64 x5_1 ∧ Aside0 (culvertref25_Lines.l0 kq a0 x3_1 x4_1 x5_1 = some r) ∧ Aside0 (kq ≤ k) ∧ Aside0 (Kd.R Kd.string 9 w' w.heap.size (fun _ => True) v3 x3_1) ∧ Aside0 (Below w.heap.size w w'))
 case atStart => exact ⟨(([] : List ByteArray)), (0), (0), (by first | rfl | (simp; done) | (simp [*]; done)), (by first | rfl | (simp; done) | (simp [*]; done)), H', ⟨Nat.le_refl _⟩, ⟨by first | exact Kd.R_nil _ _ _ _ _ | exact Kd.N_nil _ _ _ _ _ | exact Kd.V_nil _ _ _ _ _ | exact Kd.Q_nil _ _ _ _ _ | exact Kd.S_nil _ _ _ _ _⟩, ⟨by repeat (first | (with_reducible first | exact HB.out | apply below_alloc | apply pw_below_drewN | apply below_drew1) | exact HB.out)⟩⟩
 case round =>
  clear H'
  obtain ⟨x3_1, x4_1, x5_1, rfl, rfl, HA, HK1, HO_3, HB⟩ := hrel
  cases gk with
  | zero => exact absurd HA.out (by simp [culvertref25_Lines.l0])
  | succ k1 =>
    have H := HA.out
    clear HA
    simp only [culvertref25_Lines.l0] at H
    by_cases c2 : x5_1 < (a0.size : Int)
    · rw [if_pos c2] at H
      have c2b0 : decide (x5_1 < (a0.size : Int)) = true := decide_eq_true c2
      clear c2
      by_cases c3 : 0 ≤ x5_1
      · rw [if_pos c3] at H
        have c3b0 : decide (0 ≤ x5_1) = true := decide_eq_true c3
        clear c3
        by_cases c5 : (bt a0 x5_1) = 10
        · rw [if_pos c5] at H
          have c5b0 : ((bt a0 x5_1) == 10) = true := beq_iff_eq.mpr c5
          have c5b1 : ((bt a0 x5_1) != 10) = false := bne_eq_false_iff_eq.mpr c5
          clear c5
          by_cases c6 : 0 ≤ x4_1
          · rw [if_pos c6] at H
            have c6b0 := eq_true c6
            have c6b1 : decide (0 ≤ x4_1) = true := decide_eq_true c6
            clear c6
            by_cases c7 : x4_1 ≤ x5_1
            · rw [if_pos c7] at H
              have c7b0 := eq_true c7
              have c7b1 : decide (x4_1 ≤ x5_1) = true := decide_eq_true c7
              clear c7
              by_cases c8 : x5_1 ≤ (a0.size : Int)
              · rw [if_pos c8] at H
                have c8b0 := eq_true c8
                have c8b1 : decide (x5_1 ≤ (a0.size : Int)) = true := decide_eq_true c8
                clear c8
                by_cases c9 : x3_1.length < 8796093022208
                · rw [if_pos c9] at H
                  have LMc9 := Aside0.mk c9
                  clear c9
                  obtain ⟨y359, hy359⟩ : ∃ y_ : List ByteArray, y_ = (x3_1 ++ [a0.extract (x4_1 : Int).toNat (x5_1 : Int).toNat]) := ⟨_, rfl⟩
                  replace H : (culvertref25_Lines.l0 k1 a0 y359 (wrap64 (x5_1 + 1)) (wrap64 (x5_1 + 1))) = some r := by first | (rw [hy359]; with_reducible exact H) | (have H2_ := (Option.bind_some _ _).symm.trans H; rw [hy359]; with_reducible exact H2_) | (have H2_ := (Option.bind_some _ _).symm.trans H; with_reducible exact H2_) | with_reducible exact H | (rw [hy359]; exact H) | exact H
                  have Ny359 := Aside0.mk hy359
                  clear hy359
                  have H' := Aside0.mk H
                  clear H
                  have p4 : 0 ≤ (x5_1 : Int) := of_decide_eq_true (by first | (with_reducible assumption) | assumption)
                  have q4 : x5_1 < (a0.size : Int) := of_decide_eq_true (by first | (with_reducible assumption) | assumption)
                  have hx4 := bt_at a0 x5_1
                  replace p4 := eq_true p4
                  replace q4 := eq_true q4
                  go_wp2_with (first | ((with_reducible refine gate_builtin (b := .append) (xs := #[.tmp 16, .tmp 21]) rfl ?_); at_builtin; refine Kd.R_append Kd.string (w0 := w) w.heap.size rfl (.tmp 16) (.tmp 21) 94 9 (.string ⟨#[]⟩) 16 rfl Tryz.underlying94 info9 rfl (by decide) (by omega) u3 x3_1 (a0.extract (x4_1 : Int).toNat (x5_1 : Int).toNat) [.string (a0.extract (x4_1 : Int).toNat (x5_1 : Int).toNat)] (fun _ => True) (fun _ => False) rfl rfl ?aP (fun _ hk => hk.elim) ?aF ?aO ?aB ?aS ?aL ?_; (case aP => exact rfl); (case aB => exact (by repeat (first | (with_reducible first | exact HB.out | apply below_alloc | apply pw_below_drewN | apply below_drew1) | exact HB.out))); (case aF => exact (fun _ _ => trivial)); (case aO => exact (by (with_reducible repeat (first | apply Kd.R_alloc | apply Kd.R_drewN | apply Kd.R_drew)); exact HO_3.out)); (case aS => exact (below_size (by repeat (first | (with_reducible first | exact HB.out | apply below_alloc | apply pw_below_drewN | apply below_drew1) | exact HB.out)))); (case aL => have := LMc9.out; omega); intro v360 w10 ho hb hg hat; rw [← Ny359.out] at ho; have n0_ := Aside0.mk (hb); have n1_ := Aside0.mk (ho); clear HB; clear HO_3; have HB := n0_; have HO361 := n1_; clear n0_ n1_; clear ho hb hg hat))
                  go_roundg k1
                  case measure => have := HK1.out; omega
                  case rel => exact ⟨(y359), (wrap64 (x5_1 + 1)), (wrap64 (x5_1 + 1)), (by first | rfl | (simp; done) | (simp [*]; done)), (by first | rfl | (simp; done) | (simp [*]; done)), H', ⟨by have := HK1.out; omega⟩, ⟨by (with_reducible repeat (first | apply Kd.R_alloc | apply Kd.R_drewN | apply Kd.R_drew)); exact HO361.out⟩, ⟨by repeat (first | (with_reducible first | exact HB.out | apply below_alloc | apply pw_below_drewN | apply below_drew1) | exact HB.out)⟩⟩
                · rw [if_neg c9] at H
                  exact absurd H (by simp)
              · rw [if_neg c8] at H
                exact absurd H (by simp)
            · rw [if_neg c7] at H
              exact absurd H (by simp)
          · rw [if_neg c6] at H
            exact absurd H (by simp)
        · rw [if_neg c5] at H
          have c5b0 : ((bt a0 x5_1) == 10) = false := beq_eq_false_iff_ne.mpr c5
          have c5b1 : ((bt a0 x5_1) != 10) = true := bne_iff_ne.mpr c5
          have H' := Aside0.mk H
          clear H
          have p4 : 0 ≤ (x5_1 : Int) := of_decide_eq_true (by first | (with_reducible assumption) | assumption)
          have q4 : x5_1 < (a0.size : Int) := of_decide_eq_true (by first | (with_reducible assumption) | assumption)
          have hx4 := bt_at a0 x5_1
          replace p4 := eq_true p4
          replace q4 := eq_true q4
          go_wp2
          go_roundg k1
          case measure => have := HK1.out; omega
          case rel => exact ⟨(x3_1), (x4_1), (wrap64 (x5_1 + 1)), (by first | rfl | (simp; done) | (simp [*]; done)), (by first | rfl | (simp; done) | (simp [*]; done)), H', ⟨by have := HK1.out; omega⟩, ⟨by (with_reducible repeat (first | apply Kd.R_alloc | apply Kd.R_drewN | apply Kd.R_drew)); exact HO_3.out⟩, ⟨by repeat (first | (with_reducible first | exact HB.out | apply below_alloc | apply pw_below_drewN | apply below_drew1) | exact HB.out)⟩⟩
      · rw [if_neg c3] at H
        exact absurd H (by simp)
    · rw [if_neg c2] at H
      have c2b0 : decide (x5_1 < (a0.size : Int)) = false := decide_eq_false c2
      clear c2
      by_cases c11 : 0 ≤ x4_1
      · rw [if_pos c11] at H
        have c11b0 := eq_true c11
        have c11b1 : decide (0 ≤ x4_1) = true := decide_eq_true c11
        clear c11
        by_cases c12 : x4_1 ≤ (a0.size : Int)
        · rw [if_pos c12] at H
          have c12b0 := eq_true c12
          have c12b1 : decide (x4_1 ≤ (a0.size : Int)) = true := decide_eq_true c12
          clear c12
          by_cases c13 : x3_1.length < 8796093022208
          · rw [if_pos c13] at H
            have LMc13 := Aside0.mk c13
            clear c13
            obtain ⟨y362, hy362⟩ : ∃ y_ : List ByteArray, y_ = (x3_1 ++ [a0.extract (x4_1 : Int).toNat a0.size]) := ⟨_, rfl⟩
            replace H : (some y362) = some r := by first | (rw [hy362]; with_reducible exact H) | (have H2_ := (Option.bind_some _ _).symm.trans H; rw [hy362]; with_reducible exact H2_) | (have H2_ := (Option.bind_some _ _).symm.trans H; with_reducible exact H2_) | with_reducible exact H | (rw [hy362]; exact H) | exact H
            have Ny362 := Aside0.mk hy362
            clear hy362
            obtain rfl := Option.some.inj H
            go_wp2_with (first | ((with_reducible refine gate_builtin (b := .append) (xs := #[.tmp 25, .tmp 29]) rfl ?_); at_builtin; refine Kd.R_append Kd.string (w0 := w) w.heap.size rfl (.tmp 25) (.tmp 29) 94 9 (.string ⟨#[]⟩) 16 rfl Tryz.underlying94 info9 rfl (by decide) (by omega) u3 x3_1 (a0.extract (x4_1 : Int).toNat a0.size) [.string (a0.extract (x4_1 : Int).toNat a0.size)] (fun _ => True) (fun _ => False) rfl rfl ?aP (fun _ hk => hk.elim) ?aF ?aO ?aB ?aS ?aL ?_; (case aP => exact rfl); (case aB => exact (by repeat (first | (with_reducible first | exact HB.out | apply below_alloc | apply pw_below_drewN | apply below_drew1) | exact HB.out))); (case aF => exact (fun _ _ => trivial)); (case aO => exact (by (with_reducible repeat (first | apply Kd.R_alloc | apply Kd.R_drewN | apply Kd.R_drew)); exact HO_3.out)); (case aS => exact (below_size (by repeat (first | (with_reducible first | exact HB.out | apply below_alloc | apply pw_below_drewN | apply below_drew1) | exact HB.out)))); (case aL => have := LMc13.out; omega); intro v363 w14 ho hb hg hat; rw [← Ny362.out] at ho; have n0_ := Aside0.mk (hb); have n1_ := Aside0.mk (ho); clear HB; clear HO_3; have HB := n0_; have HO364 := n1_; clear n0_ n1_; clear ho hb hg hat))
            go_ret
            exact ⟨_, by first | rfl | (simp [errW_none, errW_some] <;> rfl) | (simp [*, errW_none, errW_some] <;> rfl), by (with_reducible repeat (first | apply Kd.R_alloc | apply Kd.R_drewN | apply Kd.R_drew)); exact HO364.out, by repeat (first | (with_reducible first | exact HB.out | apply below_alloc | apply pw_below_drewN | apply below_drew1) | exact HB.out)⟩
          · rw [if_neg c13] at H
            exact absurd H (by simp)
        · rw [if_neg c12] at H
          exact absurd H (by simp)
      · rw [if_neg c11] at H
        exact absurd H (by simp)
/-! ### culvertref25_Words: function 63 -/
mutual
def culvertref25_Words.l0 : Nat → ByteArray → List ByteArray → Int → Int → Option (List ByteArray)
 | 0, _, _, _, _ => none
 | k + 1, x0, x3, x4, x5 => if x5 ≤ (x0.size : Int) then (if x5 = (x0.size : Int) then (culvertref25_Words.j1 k x0 x3 x4 x5 true) else (if 0 ≤ x5 then (if x5 < (x0.size : Int) then (if (bt x0 x5) = 32 then (culvertref25_Words.j1 k x0 x3 x4 x5 true) else (if (bt x0 x5) = 9 then (culvertref25_Words.j1 k x0 x3 x4 x5 true) else (culvertref25_Words.j1 k x0 x3 x4 x5 ((bt x0 x5) == 13)))) else (none)) else (none))) else (some x3)
def culvertref25_Words.j1 : Nat → ByteArray → List ByteArray → Int → Int → Bool → Option (List ByteArray)
 | 0, _, _, _, _, _ => none
 | k + 1, x0, x3, x4, x5, x6 => if x6 = true then (culvertref25_Words.j2 k x0 x3 x4 x5 x6 (decide (x4 ≥ 0))) else (culvertref25_Words.j2 k x0 x3 x4 x5 x6 false)
def culvertref25_Words.j2 : Nat → ByteArray → List ByteArray → Int → Int → Bool → Bool → Option (List ByteArray)
 | 0, _, _, _, _, _, _ => none
 | k + 1, x0, x3, x4, x5, x6, x39 => if x39 = true then (if 0 ≤ x4 then (if x4 ≤ x5 then (if x5 ≤ (x0.size : Int) then (if x3.length < 8796093022208 then ((some (x3 ++ [x0.extract (x4 : Int).toNat (x5 : Int).toNat] : List ByteArray)).bind fun y365 => (if x6 = true then (culvertref25_Words.l0 k x0 y365 (-1) (wrap64 (x5 + 1))) else (if (-1) < 0 then (culvertref25_Words.l0 k x0 y365 x5 (wrap64 (x5 + 1))) else (culvertref25_Words.l0 k x0 y365 (-1) (wrap64 (x5 + 1)))))) else (none)) else (none)) else (none)) else (none)) else (if x6 = true then (culvertref25_Words.l0 k x0 x3 x4 (wrap64 (x5 + 1))) else (if x4 < 0 then (culvertref25_Words.l0 k x0 x3 x5 (wrap64 (x5 + 1))) else (culvertref25_Words.l0 k x0 x3 x4 (wrap64 (x5 + 1)))))
end
def culvertref25_Words.f (k : Nat) (a0 : ByteArray) : Option (List ByteArray) := culvertref25_Words.l0 k a0 ([] : List ByteArray) (-1) 0
set_option maxHeartbeats 8000000 in
set_option maxRecDepth 100000 in
theorem culvertref25_Words.calls (k : Nat) (a0 : ByteArray) (r : List ByteArray) (w : World) (h : culvertref25_Words.f k a0 = some r) :
    Calls Tryz.prog 63 #[.string a0] w fun e w' => ∃ v0_ : Value, e = .returned (v0_) ∧ Kd.R Kd.string 9 w' w.heap.size (fun _ => True) v0_ r ∧ Below w.heap.size w w' := by
 have HB := Aside0.mk (Below.refl w.heap.size w)
 have H : (culvertref25_Words.l0 k a0 ([] : List ByteArray) (-1) 0) = some r := h
 clear h
 have H' := Aside0.mk H
 clear H
 go_enter Tryz.func63, Tryz.ntmps63
 go_wp2
 go_loopg [3, 4, 5] k (fun kq v3 v4 v5 w' => ∃ (x3_1 : List ByteArray) (x4_1 : Int) (x5_1 : Int), v4 = .int .i64 x4_1 ∧ v5 = .int .i64 x5_1 ∧ Aside0 (culvertref25_Words.l0 kq a0 x3_1 x4_1 x5_1 = some r) ∧ Aside0 (kq ≤ k) ∧ Aside0 (Kd.R Kd.string 9 w' w.heap.size (fun _ => True) v3 x3_1) ∧ Aside0 (Below w.heap.size w w'))
 case atStart => exact ⟨(([] : List ByteArray)), ((-1)), (0), (by first | rfl | (simp; done) | (simp [*]; done) | (exfalso; revert c21b0; decide)), (by first | rfl | (simp; done) | (simp [*]; done) | (exfalso; revert c21b0; decide)), H', ⟨Nat.le_refl _⟩, ⟨by first | exact Kd.R_nil _ _ _ _ _ | exact Kd.N_nil _ _ _ _ _ | exact Kd.V_nil _ _ _ _ _ | exact Kd.Q_nil _ _ _ _ _ | exact Kd.S_nil _ _ _ _ _⟩, ⟨by repeat (first | (with_reducible first | exact HB.out | apply below_alloc | apply pw_below_drewN | apply below_drew1) | exact HB.out)⟩⟩
 case round =>
  clear H'
  obtain ⟨x3_1, x4_1, x5_1, rfl, rfl, HA, HK1, HO_3, HB⟩ := hrel
  cases gk with
  | zero => exact absurd HA.out (by simp [culvertref25_Words.l0])
  | succ k1 =>
    have H := HA.out
    clear HA
    simp only [culvertref25_Words.l0] at H
    by_cases c2 : x5_1 ≤ (a0.size : Int)
    · rw [if_pos c2] at H
      have c2b0 : decide (x5_1 ≤ (a0.size : Int)) = true := decide_eq_true c2
      clear c2
      have HC3 := Aside0.mk H
      clear H
      go_upto_region 6 with (fail)
      go_cut [6] (fun v6 wc => ∃ (kq : Nat) (x6_2 : Bool), v6 = .bool x6_2 ∧ Aside0 (culvertref25_Words.j1 kq a0 x3_1 x4_1 x5_1 x6_2 = some r) ∧ Aside0 (kq ≤ k1) ∧ Aside0 (Kd.R Kd.string 9 wc w.heap.size (fun _ => True) u3 x3_1) ∧ Aside0 (Below w.heap.size w wc))
      case first =>
       have H := HC3.out
       clear HC3
       by_cases c4 : x5_1 = (a0.size : Int)
       · rw [if_pos c4] at H
         have c4b0 : (x5_1 == (a0.size : Int)) = true := beq_iff_eq.mpr c4
         have c4b1 : (x5_1 != (a0.size : Int)) = false := bne_eq_false_iff_eq.mpr c4
         clear c4
         (first | rw [c4b0] | (simp only [i64_w, i32_w]; rw [c4b0]) | skip)
         have H' := Aside0.mk H
         clear H
         go_wp2
         go_meet
         case rel => exact ⟨_, (true), (by first | rfl | (simp; done) | (simp [*]; done) | (exfalso; revert c21b0; decide)), H', ⟨by have := HK1.out; first | omega | exact Nat.le_refl _⟩, ⟨by (with_reducible repeat (first | apply Kd.R_alloc | apply Kd.R_drewN | apply Kd.R_drew)); exact HO_3.out⟩, ⟨by repeat (first | (with_reducible first | exact HB.out | apply below_alloc | apply pw_below_drewN | apply below_drew1) | exact HB.out)⟩⟩
       · rw [if_neg c4] at H
         have c4b0 : (x5_1 == (a0.size : Int)) = false := beq_eq_false_iff_ne.mpr c4
         have c4b1 : (x5_1 != (a0.size : Int)) = true := bne_iff_ne.mpr c4
         (first | rw [c4b0] | (simp only [i64_w, i32_w]; rw [c4b0]) | skip)
         by_cases c5 : 0 ≤ x5_1
         · rw [if_pos c5] at H
           have c5b0 : decide (0 ≤ x5_1) = true := decide_eq_true c5
           clear c5
           by_cases c6 : x5_1 < (a0.size : Int)
           · rw [if_pos c6] at H
             have c6b0 : decide (x5_1 < (a0.size : Int)) = true := decide_eq_true c6
             clear c6
             by_cases c8 : (bt a0 x5_1) = 32
             · rw [if_pos c8] at H
               have c8b0 : ((bt a0 x5_1) == 32) = true := beq_iff_eq.mpr c8
               have c8b1 : ((bt a0 x5_1) != 32) = false := bne_eq_false_iff_eq.mpr c8
               clear c8
               have H' := Aside0.mk H
               clear H
               have p7 : 0 ≤ (x5_1 : Int) := of_decide_eq_true (by first | (with_reducible assumption) | assumption)
               have q7 : x5_1 < (a0.size : Int) := of_decide_eq_true (by first | (with_reducible assumption) | assumption)
               have hx7 := bt_at a0 x5_1
               replace p7 := eq_true p7
               replace q7 := eq_true q7
               go_wp2
               go_meet
               case rel => exact ⟨_, (true), (by first | rfl | (simp; done) | (simp [*]; done) | (exfalso; revert c21b0; decide)), H', ⟨by have := HK1.out; first | omega | exact Nat.le_refl _⟩, ⟨by (with_reducible repeat (first | apply Kd.R_alloc | apply Kd.R_drewN | apply Kd.R_drew)); exact HO_3.out⟩, ⟨by repeat (first | (with_reducible first | exact HB.out | apply below_alloc | apply pw_below_drewN | apply below_drew1) | exact HB.out)⟩⟩
             · rw [if_neg c8] at H
               have c8b0 : ((bt a0 x5_1) == 32) = false := beq_eq_false_iff_ne.mpr c8
               have c8b1 : ((bt a0 x5_1) != 32) = true := bne_iff_ne.mpr c8
               by_cases c10 : (bt a0 x5_1) = 9
               · rw [if_pos c10] at H
                 have c10b0 : ((bt a0 x5_1) == 9) = true := beq_iff_eq.mpr c10
                 have c10b1 : ((bt a0 x5_1) != 9) = false := bne_eq_false_iff_eq.mpr c10
                 clear c10
                 have H' := Aside0.mk H
                 clear H
                 have p7 : 0 ≤ (x5_1 : Int) := of_decide_eq_true (by first | (with_reducible assumption) | assumption)
                 have q7 : x5_1 < (a0.size : Int) := of_decide_eq_true (by first | (with_reducible assumption) | assumption)
                 have hx7 := bt_at a0 x5_1
                 replace p7 := eq_true p7
                 replace q7 := eq_true q7
                 have p9 : 0 ≤ (x5_1 : Int) := of_decide_eq_true (by first | (with_reducible assumption) | assumption)
                 have q9 : x5_1 < (a0.size : Int) := of_decide_eq_true (by first | (with_reducible assumption) | assumption)
                 have hx9 := bt_at a0 x5_1
                 replace p9 := eq_true p9
                 replace q9 := eq_true q9
                 go_wp2
                 go_meet
                 case rel => exact ⟨_, (true), (by first | rfl | (simp; done) | (simp [*]; done) | (exfalso; revert c21b0; decide)), H', ⟨by have := HK1.out; first | omega | exact Nat.le_refl _⟩, ⟨by (with_reducible repeat (first | apply Kd.R_alloc | apply Kd.R_drewN | apply Kd.R_drew)); exact HO_3.out⟩, ⟨by repeat (first | (with_reducible first | exact HB.out | apply below_alloc | apply pw_below_drewN | apply below_drew1) | exact HB.out)⟩⟩
               · rw [if_neg c10] at H
                 have c10b0 : ((bt a0 x5_1) == 9) = false := beq_eq_false_iff_ne.mpr c10
                 have c10b1 : ((bt a0 x5_1) != 9) = true := bne_iff_ne.mpr c10
                 have H' := Aside0.mk H
                 clear H
                 have p7 : 0 ≤ (x5_1 : Int) := of_decide_eq_true (by first | (with_reducible assumption) | assumption)
                 have q7 : x5_1 < (a0.size : Int) := of_decide_eq_true (by first | (with_reducible assumption) | assumption)
                 have hx7 := bt_at a0 x5_1
                 replace p7 := eq_true p7
                 replace q7 := eq_true q7
                 have p9 : 0 ≤ (x5_1 : Int) := of_decide_eq_true (by first | (with_reducible assumption) | assumption)
                 have q9 : x5_1 < (a0.size : Int) := of_decide_eq_true (by first | (with_reducible assumption) | assumption)
                 have hx9 := bt_at a0 x5_1
                 replace p9 := eq_true p9
                 replace q9 := eq_true q9
                 have p11 : 0 ≤ (x5_1 : Int) := of_decide_eq_true (by first | (with_reducible assumption) | assumption)
                 have q11 : x5_1 < (a0.size : Int) := of_decide_eq_true (by first | (with_reducible assumption) | assumption)
                 have hx11 := bt_at a0 x5_1
                 replace p11 := eq_true p11
                 replace q11 := eq_true q11
                 go_wp2
                 go_meet
                 case rel => exact ⟨_, (((bt a0 x5_1) == 13)), (by first | rfl | (simp; done) | (simp [*]; done) | (exfalso; revert c21b0; decide)), H', ⟨by have := HK1.out; first | omega | exact Nat.le_refl _⟩, ⟨by (with_reducible repeat (first | apply Kd.R_alloc | apply Kd.R_drewN | apply Kd.R_drew)); exact HO_3.out⟩, ⟨by repeat (first | (with_reducible first | exact HB.out | apply below_alloc | apply pw_below_drewN | apply below_drew1) | exact HB.out)⟩⟩
           · rw [if_neg c6] at H
             exact absurd H (by simp)
         · rw [if_neg c5] at H
           exact absurd H (by simp)
      case rest =>
       clear HC3
       try clear c1
       try clear p1
       try clear q1
       try clear hx1
       try clear c2
       try clear c2b0
       try clear p2
       try clear c4
       try clear c4b0
       try clear c4b1
       try clear c5
       try clear c5b0
       try clear c6
       try clear c6b0
       try clear p7
       try clear q7
       try clear hx7
       try clear c8
       try clear c8b0
       try clear c8b1
       try clear p9
       try clear q9
       try clear hx9
       try clear c10
       try clear c10b0
       try clear c10b1
       try clear p11
       try clear q11
       try clear hx11
       try clear p11
       try clear p7
       try clear p9
       try clear q11
       try clear q7
       try clear q9
       obtain ⟨kq, x6_2, rfl, HA, HJ2, HO_3, HB⟩ := hcut
       cases kq with
       | zero => exact absurd HA.out (by simp [culvertref25_Words.j1])
       | succ kj2 =>
         have H := HA.out
         clear HA
         simp only [culvertref25_Words.j1] at H
         have HC12 := Aside0.mk H
         clear H
         go_upto_region 7 with (fail)
         go_cut [39] (fun v39 wc => ∃ (kq : Nat) (x39_11 : Bool), v39 = .bool x39_11 ∧ Aside0 (culvertref25_Words.j2 kq a0 x3_1 x4_1 x5_1 x6_2 x39_11 = some r) ∧ Aside0 (kq ≤ kj2) ∧ Aside0 (Kd.R Kd.string 9 wc w.heap.size (fun _ => True) u3 x3_1) ∧ Aside0 (Below w.heap.size w wc))
         case first =>
          have H := HC12.out
          clear HC12
          by_cases c13 : x6_2 = true
          · subst c13
            have H1 : (culvertref25_Words.j2 kj2 a0 x3_1 x4_1 x5_1 true (decide (x4_1 ≥ 0))) = some r := by rw [if_pos rfl] at H; exact H
            clear H
            have H := H1
            clear H1
            have H' := Aside0.mk H
            clear H
            go_wp2
            go_meet
            case rel => exact ⟨_, (decide (x4_1 ≥ 0)), (by first | rfl | (simp; done) | (simp [*]; done) | (exfalso; revert c21b0; decide)), H', ⟨by have := HK1.out; have := HJ2.out; first | omega | exact Nat.le_refl _⟩, ⟨by (with_reducible repeat (first | apply Kd.R_alloc | apply Kd.R_drewN | apply Kd.R_drew)); exact HO_3.out⟩, ⟨by repeat (first | (with_reducible first | exact HB.out | apply below_alloc | apply pw_below_drewN | apply below_drew1) | exact HB.out)⟩⟩
          · replace c13 := Bool.eq_false_iff.mpr c13
            subst c13
            have H1 : (culvertref25_Words.j2 kj2 a0 x3_1 x4_1 x5_1 false false) = some r := by rw [if_neg (show ¬ (false = true) by decide)] at H; exact H
            clear H
            have H := H1
            clear H1
            have H' := Aside0.mk H
            clear H
            go_wp2
            go_meet
            case rel => exact ⟨_, (false), (by first | rfl | (simp; done) | (simp [*]; done) | (exfalso; revert c21b0; decide)), H', ⟨by have := HK1.out; have := HJ2.out; first | omega | exact Nat.le_refl _⟩, ⟨by (with_reducible repeat (first | apply Kd.R_alloc | apply Kd.R_drewN | apply Kd.R_drew)); exact HO_3.out⟩, ⟨by repeat (first | (with_reducible first | exact HB.out | apply below_alloc | apply pw_below_drewN | apply below_drew1) | exact HB.out)⟩⟩
         case rest =>
          clear HC12
          try clear c1
          try clear p1
          try clear q1
          try clear hx1
          try clear c2
          try clear c2b0
          try clear p2
          try clear c4
          try clear c4b0
          try clear c4b1
          try clear c5
          try clear c5b0
          try clear c6
          try clear c6b0
          try clear p7
          try clear q7
          try clear hx7
          try clear c8
          try clear c8b0
          try clear c8b1
          try clear p9
          try clear q9
          try clear hx9
          try clear c10
          try clear c10b0
          try clear c10b1
          try clear p11
          try clear q11
          try clear hx11
          try clear c13
          try clear p1
          try clear p11
          try clear p2
          try clear p7
          try clear p9
          try clear q1
          try clear q11
          try clear q7
          try clear q9
          obtain ⟨kq, x39_11, rfl, HA, HJ11, HO_3, HB⟩ := hcut
          cases kq with
          | zero => exact absurd HA.out (by simp [culvertref25_Words.j2])
          | succ kj11 =>
            have H := HA.out
            clear HA
            simp only [culvertref25_Words.j2] at H
            by_cases c14 : x39_11 = true
            · subst c14
              have H1 : (if 0 ≤ x4_1 then (if x4_1 ≤ x5_1 then (if x5_1 ≤ (a0.size : Int) then (if x3_1.length < 8796093022208 then ((some (x3_1 ++ [a0.extract (x4_1 : Int).toNat (x5_1 : Int).toNat] : List ByteArray)).bind fun y365 => (if x6_2 = true then (culvertref25_Words.l0 kj11 a0 y365 (-1) (wrap64 (x5_1 + 1))) else (if (-1) < 0 then (culvertref25_Words.l0 kj11 a0 y365 x5_1 (wrap64 (x5_1 + 1))) else (culvertref25_Words.l0 kj11 a0 y365 (-1) (wrap64 (x5_1 + 1)))))) else (none)) else (none)) else (none)) else (none)) = some r := by rw [if_pos rfl] at H; exact H
              clear H
              have H := H1
              clear H1
              by_cases c15 : 0 ≤ x4_1
              · rw [if_pos c15] at H
                have c15b0 := eq_true c15
                have c15b1 : decide (0 ≤ x4_1) = true := decide_eq_true c15
                clear c15
                by_cases c16 : x4_1 ≤ x5_1
                · rw [if_pos c16] at H
                  have c16b0 := eq_true c16
                  have c16b1 : decide (x4_1 ≤ x5_1) = true := decide_eq_true c16
                  clear c16
                  by_cases c17 : x5_1 ≤ (a0.size : Int)
                  · rw [if_pos c17] at H
                    have c17b0 := eq_true c17
                    have c17b1 : decide (x5_1 ≤ (a0.size : Int)) = true := decide_eq_true c17
                    clear c17
                    by_cases c18 : x3_1.length < 8796093022208
                    · rw [if_pos c18] at H
                      have LMc18 := Aside0.mk c18
                      clear c18
                      obtain ⟨y365, hy365⟩ : ∃ y_ : List ByteArray, y_ = (x3_1 ++ [a0.extract (x4_1 : Int).toNat (x5_1 : Int).toNat]) := ⟨_, rfl⟩
                      replace H : (if x6_2 = true then (culvertref25_Words.l0 kj11 a0 y365 (-1) (wrap64 (x5_1 + 1))) else (if (-1) < 0 then (culvertref25_Words.l0 kj11 a0 y365 x5_1 (wrap64 (x5_1 + 1))) else (culvertref25_Words.l0 kj11 a0 y365 (-1) (wrap64 (x5_1 + 1))))) = some r := by first | (rw [hy365]; with_reducible exact H) | (have H2_ := (Option.bind_some _ _).symm.trans H; rw [hy365]; with_reducible exact H2_) | (have H2_ := (Option.bind_some _ _).symm.trans H; with_reducible exact H2_) | with_reducible exact H | (rw [hy365]; exact H) | exact H
                      have Ny365 := Aside0.mk hy365
                      clear hy365
                      by_cases c19 : x6_2 = true
                      · subst c19
                        have H1 : (culvertref25_Words.l0 kj11 a0 y365 (-1) (wrap64 (x5_1 + 1))) = some r := by rw [if_pos rfl] at H; exact H
                        clear H
                        have H := H1
                        clear H1
                        have H' := Aside0.mk H
                        clear H
                        go_wp2_with (first | ((with_reducible refine gate_builtin (b := .append) (xs := #[.tmp 40, .tmp 45]) rfl ?_); at_builtin; refine Kd.R_append Kd.string (w0 := w) w.heap.size rfl (.tmp 40) (.tmp 45) 94 9 (.string ⟨#[]⟩) 16 rfl Tryz.underlying94 info9 rfl (by decide) (by omega) u3 x3_1 (a0.extract (x4_1 : Int).toNat (x5_1 : Int).toNat) [.string (a0.extract (x4_1 : Int).toNat (x5_1 : Int).toNat)] (fun _ => True) (fun _ => False) rfl rfl ?aP (fun _ hk => hk.elim) ?aF ?aO ?aB ?aS ?aL ?_; (case aP => exact rfl); (case aB => exact (by repeat (first | (with_reducible first | exact HB.out | apply below_alloc | apply pw_below_drewN | apply below_drew1) | exact HB.out))); (case aF => exact (fun _ _ => trivial)); (case aO => exact (by (with_reducible repeat (first | apply Kd.R_alloc | apply Kd.R_drewN | apply Kd.R_drew)); exact HO_3.out)); (case aS => exact (below_size (by repeat (first | (with_reducible first | exact HB.out | apply below_alloc | apply pw_below_drewN | apply below_drew1) | exact HB.out)))); (case aL => have := LMc18.out; omega); intro v366 w20 ho hb hg hat; rw [← Ny365.out] at ho; have n0_ := Aside0.mk (hb); have n1_ := Aside0.mk (ho); clear HB; clear HO_3; have HB := n0_; have HO367 := n1_; clear n0_ n1_; clear ho hb hg hat))
                        go_roundg kj11
                        case measure => have := HK1.out; have := HJ2.out; have := HJ11.out; omega
                        case rel => exact ⟨(y365), ((-1)), (wrap64 (x5_1 + 1)), (by first | rfl | (simp; done) | (simp [*]; done) | (exfalso; revert c21b0; decide)), (by first | rfl | (simp; done) | (simp [*]; done) | (exfalso; revert c21b0; decide)), H', ⟨by have := HK1.out; have := HJ2.out; have := HJ11.out; omega⟩, ⟨by (with_reducible repeat (first | apply Kd.R_alloc | apply Kd.R_drewN | apply Kd.R_drew)); exact HO367.out⟩, ⟨by repeat (first | (with_reducible first | exact HB.out | apply below_alloc | apply pw_below_drewN | apply below_drew1) | exact HB.out)⟩⟩
                      · replace c19 := Bool.eq_false_iff.mpr c19
                        subst c19
                        have H1 : (if (-1) < 0 then (culvertref25_Words.l0 kj11 a0 y365 x5_1 (wrap64 (x5_1 + 1))) else (culvertref25_Words.l0 kj11 a0 y365 (-1) (wrap64 (x5_1 + 1)))) = some r := by rw [if_neg (show ¬ (false = true) by decide)] at H; exact H
                        clear H
                        have H := H1
                        clear H1
                        by_cases c21 : (-1) < 0
                        · rw [if_pos c21] at H
                          have c21b0 : decide ((-1) < 0) = true := decide_eq_true c21
                          clear c21
                          have H' := Aside0.mk H
                          clear H
                          go_wp2_with (first | ((with_reducible refine gate_builtin (b := .append) (xs := #[.tmp 40, .tmp 45]) rfl ?_); at_builtin; refine Kd.R_append Kd.string (w0 := w) w.heap.size rfl (.tmp 40) (.tmp 45) 94 9 (.string ⟨#[]⟩) 16 rfl Tryz.underlying94 info9 rfl (by decide) (by omega) u3 x3_1 (a0.extract (x4_1 : Int).toNat (x5_1 : Int).toNat) [.string (a0.extract (x4_1 : Int).toNat (x5_1 : Int).toNat)] (fun _ => True) (fun _ => False) rfl rfl ?aP (fun _ hk => hk.elim) ?aF ?aO ?aB ?aS ?aL ?_; (case aP => exact rfl); (case aB => exact (by repeat (first | (with_reducible first | exact HB.out | apply below_alloc | apply pw_below_drewN | apply below_drew1) | exact HB.out))); (case aF => exact (fun _ _ => trivial)); (case aO => exact (by (with_reducible repeat (first | apply Kd.R_alloc | apply Kd.R_drewN | apply Kd.R_drew)); exact HO_3.out)); (case aS => exact (below_size (by repeat (first | (with_reducible first | exact HB.out | apply below_alloc | apply pw_below_drewN | apply below_drew1) | exact HB.out)))); (case aL => have := LMc18.out; omega); intro v366 w22 ho hb hg hat; rw [← Ny365.out] at ho; have n0_ := Aside0.mk (hb); have n1_ := Aside0.mk (ho); clear HB; clear HO_3; have HB := n0_; have HO367 := n1_; clear n0_ n1_; clear ho hb hg hat))
                          go_roundg kj11
                          case measure => have := HK1.out; have := HJ2.out; have := HJ11.out; omega
                          case rel => exact ⟨(y365), (x5_1), (wrap64 (x5_1 + 1)), (by first | rfl | (simp; done) | (simp [*]; done) | (exfalso; revert c21b0; decide)), (by first | rfl | (simp; done) | (simp [*]; done) | (exfalso; revert c21b0; decide)), H', ⟨by have := HK1.out; have := HJ2.out; have := HJ11.out; omega⟩, ⟨by (with_reducible repeat (first | apply Kd.R_alloc | apply Kd.R_drewN | apply Kd.R_drew)); exact HO367.out⟩, ⟨by repeat (first | (with_reducible first | exact HB.out | apply below_alloc | apply pw_below_drewN | apply below_drew1) | exact HB.out)⟩⟩
                        · rw [if_neg c21] at H
                          have c21b0 : decide ((-1) < 0) = false := decide_eq_false c21
                          clear c21
                          have H' := Aside0.mk H
                          clear H
                          go_wp2_with (first | ((with_reducible refine gate_builtin (b := .append) (xs := #[.tmp 40, .tmp 45]) rfl ?_); at_builtin; refine Kd.R_append Kd.string (w0 := w) w.heap.size rfl (.tmp 40) (.tmp 45) 94 9 (.string ⟨#[]⟩) 16 rfl Tryz.underlying94 info9 rfl (by decide) (by omega) u3 x3_1 (a0.extract (x4_1 : Int).toNat (x5_1 : Int).toNat) [.string (a0.extract (x4_1 : Int).toNat (x5_1 : Int).toNat)] (fun _ => True) (fun _ => False) rfl rfl ?aP (fun _ hk => hk.elim) ?aF ?aO ?aB ?aS ?aL ?_; (case aP => exact rfl); (case aB => exact (by repeat (first | (with_reducible first | exact HB.out | apply below_alloc | apply pw_below_drewN | apply below_drew1) | exact HB.out))); (case aF => exact (fun _ _ => trivial)); (case aO => exact (by (with_reducible repeat (first | apply Kd.R_alloc | apply Kd.R_drewN | apply Kd.R_drew)); exact HO_3.out)); (case aS => exact (below_size (by repeat (first | (with_reducible first | exact HB.out | apply below_alloc | apply pw_below_drewN | apply below_drew1) | exact HB.out)))); (case aL => have := LMc18.out; omega); intro v366 w23 ho hb hg hat; rw [← Ny365.out] at ho; have n0_ := Aside0.mk (hb); have n1_ := Aside0.mk (ho); clear HB; clear HO_3; have HB := n0_; have HO367 := n1_; clear n0_ n1_; clear ho hb hg hat))
                          go_roundg kj11
                          case measure => have := HK1.out; have := HJ2.out; have := HJ11.out; omega
                          case rel => exact ⟨(y365), ((-1)), (wrap64 (x5_1 + 1)), (by first | rfl | (simp; done) | (simp [*]; done) | (exfalso; revert c21b0; decide)), (by first | rfl | (simp; done) | (simp [*]; done) | (exfalso; revert c21b0; decide)), H', ⟨by have := HK1.out; have := HJ2.out; have := HJ11.out; omega⟩, ⟨by (with_reducible repeat (first | apply Kd.R_alloc | apply Kd.R_drewN | apply Kd.R_drew)); exact HO367.out⟩, ⟨by repeat (first | (with_reducible first | exact HB.out | apply below_alloc | apply pw_below_drewN | apply below_drew1) | exact HB.out)⟩⟩
                    · rw [if_neg c18] at H
                      exact absurd H (by simp)
                  · rw [if_neg c17] at H
                    exact absurd H (by simp)
                · rw [if_neg c16] at H
                  exact absurd H (by simp)
              · rw [if_neg c15] at H
                exact absurd H (by simp)
            · replace c14 := Bool.eq_false_iff.mpr c14
              subst c14
              have H1 : (if x6_2 = true then (culvertref25_Words.l0 kj11 a0 x3_1 x4_1 (wrap64 (x5_1 + 1))) else (if x4_1 < 0 then (culvertref25_Words.l0 kj11 a0 x3_1 x5_1 (wrap64 (x5_1 + 1))) else (culvertref25_Words.l0 kj11 a0 x3_1 x4_1 (wrap64 (x5_1 + 1))))) = some r := by rw [if_neg (show ¬ (false = true) by decide)] at H; exact H
              clear H
              have H := H1
              clear H1
              by_cases c24 : x6_2 = true
              · subst c24
                have H1 : (culvertref25_Words.l0 kj11 a0 x3_1 x4_1 (wrap64 (x5_1 + 1))) = some r := by rw [if_pos rfl] at H; exact H
                clear H
                have H := H1
                clear H1
                have H' := Aside0.mk H
                clear H
                go_wp2
                go_roundg kj11
                case measure => have := HK1.out; have := HJ2.out; have := HJ11.out; omega
                case rel => exact ⟨(x3_1), (x4_1), (wrap64 (x5_1 + 1)), (by first | rfl | (simp; done) | (simp [*]; done) | (exfalso; revert c21b0; decide)), (by first | rfl | (simp; done) | (simp [*]; done) | (exfalso; revert c21b0; decide)), H', ⟨by have := HK1.out; have := HJ2.out; have := HJ11.out; omega⟩, ⟨by (with_reducible repeat (first | apply Kd.R_alloc | apply Kd.R_drewN | apply Kd.R_drew)); exact HO_3.out⟩, ⟨by repeat (first | (with_reducible first | exact HB.out | apply below_alloc | apply pw_below_drewN | apply below_drew1) | exact HB.out)⟩⟩
              · replace c24 := Bool.eq_false_iff.mpr c24
                subst c24
                have H1 : (if x4_1 < 0 then (culvertref25_Words.l0 kj11 a0 x3_1 x5_1 (wrap64 (x5_1 + 1))) else (culvertref25_Words.l0 kj11 a0 x3_1 x4_1 (wrap64 (x5_1 + 1)))) = some r := by rw [if_neg (show ¬ (false = true) by decide)] at H; exact H
                clear H
                have H := H1
                clear H1
                by_cases c25 : x4_1 < 0
                · rw [if_pos c25] at H
                  have c25b0 : decide (x4_1 < 0) = true := decide_eq_true c25
                  clear c25
                  have H' := Aside0.mk H
                  clear H
                  go_wp2
                  go_roundg kj11
                  case measure => have := HK1.out; have := HJ2.out; have := HJ11.out; omega
                  case rel => exact ⟨(x3_1), (x5_1), (wrap64 (x5_1 + 1)), (by first | rfl | (simp; done) | (simp [*]; done) | (exfalso; revert c21b0; decide)), (by first | rfl | (simp; done) | (simp [*]; done) | (exfalso; revert c21b0; decide)), H', ⟨by have := HK1.out; have := HJ2.out; have := HJ11.out; omega⟩, ⟨by (with_reducible repeat (first | apply Kd.R_alloc | apply Kd.R_drewN | apply Kd.R_drew)); exact HO_3.out⟩, ⟨by repeat (first | (with_reducible first | exact HB.out | apply below_alloc | apply pw_below_drewN | apply below_drew1) | exact HB.out)⟩⟩
                · rw [if_neg c25] at H
                  have c25b0 : decide (x4_1 < 0) = false := decide_eq_false c25
                  clear c25
                  have H' := Aside0.mk H
                  clear H
                  go_wp2
                  go_roundg kj11
                  case measure => have := HK1.out; have := HJ2.out; have := HJ11.out; omega
                  case rel => exact ⟨(x3_1), (x4_1), (wrap64 (x5_1 + 1)), (by first | rfl | (simp; done) | (simp [*]; done) | (exfalso; revert c21b0; decide)), (by first | rfl | (simp; done) | (simp [*]; done) | (exfalso; revert c21b0; decide)), H', ⟨by have := HK1.out; have := HJ2.out; have := HJ11.out; omega⟩, ⟨by (with_reducible repeat (first | apply Kd.R_alloc | apply Kd.R_drewN | apply Kd.R_drew)); exact HO_3.out⟩, ⟨by repeat (first | (with_reducible first | exact HB.out | apply below_alloc | apply pw_below_drewN | apply below_drew1) | exact HB.out)⟩⟩
    · rw [if_neg c2] at H
      have c2b0 : decide (x5_1 ≤ (a0.size : Int)) = false := decide_eq_false c2
      clear c2
      obtain rfl := Option.some.inj H
      go_wp2
      go_ret
      exact ⟨_, by first | rfl | (simp [errW_none, errW_some] <;> rfl) | (simp [*, errW_none, errW_some] <;> rfl), by (with_reducible repeat (first | apply Kd.R_alloc | apply Kd.R_drewN | apply Kd.R_drew)); exact HO_3.out, by repeat (first | (with_reducible first | exact HB.out | apply below_alloc | apply pw_below_drewN | apply below_drew1) | exact HB.out)⟩
end Go.Proofs.YtidmgckmphcegaaGreatDoor.PTapAssembles
