/-
  session.Step: the first ticket's frame is laid out.
-/
import Derived.Test.YtnpmafnhbbaokaaGreatDoorSNext
namespace Go.Proofs.YtnpmafnhbbaokaaGreatDoor
open Go Go.RowKit
open Go.ChangeMaps (setBlock)
set_option linter.unusedVariables false
set_option linter.unusedSimpArgs false
def ouC (v : Value) (t : Int) : Array Value := #[.int .i64 9223372036854775807, .int .i64 9223372036854775807, v, .int .i64 t]
theorem bs_nil (w : World) : Bs w none 0 0 [] := ⟨rfl, Nat.le_refl _, by omega, (by simp), fun _ => ⟨rfl, rfl⟩, fun h => absurd h (by simp)⟩
theorem notin_own {w : World} {n B b : Nat} {qs : List (Value × List Int)} {v : Value} {c : Array Value} {t : TypeId} {f : Nat × Nat} (h : Fq w n B qs v) (hb : w.heap[b]? = some (.cells c t f)) (ht : t ≠ 234) : b ∉ v.ownBlock.toList := fun hm => by
  obtain ⟨cur, hh, _⟩ := owns_type h.row b (Option.mem_toList.1 hm)
  exact type_ne hb hh ht rfl
theorem notin_ownM {w : World} {n B b : Nat} {qs : List (Value × List Int)} {v : Value} {es : Array MapEntry} {cl : Nat} (h : Fq w n B qs v) (hb : w.heap[b]? = some (.map es cl)) : b ∉ v.ownBlock.toList := fun hm => by
  obtain ⟨cur, hh, _⟩ := owns_type h.row b (Option.mem_toList.1 hm)
  exact map_ne hh hb rfl
theorem notin_c {w : World} {n B b : Nat} {qs : List (Value × List Int)} {v : Value} {c : Array Value} {t : TypeId} {f : Nat × Nat} (h : Fq w n B qs v) (hb : w.heap[b]? = some (.cells c t f)) (ht : t ≠ 234) (hn : b ≠ n) : b ∉ n :: v.ownBlock.toList := fun hm => by
  rcases List.mem_cons.1 hm with e | hm
  · exact hn e
  · exact notin_own h hb ht hm
theorem notin_cM {w : World} {n B b : Nat} {qs : List (Value × List Int)} {v : Value} {es : Array MapEntry} {cl : Nat} (h : Fq w n B qs v) (hb : w.heap[b]? = some (.map es cl)) (hn : b ≠ n) : b ∉ n :: v.ownBlock.toList := fun hm => by
  rcases List.mem_cons.1 hm with e | hm
  · exact hn e
  · exact notin_ownM h hb hm
theorem SG.put {w w1 : World} {n s B : Nat} {c : Cf} {mk : Int} {lane : Array Value} {es : Array MapEntry} {cl : Nat} {robin : Array Value} {es2 : Array MapEntry} {cl2 : Nat} {og : Int} {ouf ouf' : Array Value} {hv sp : Int} {ring : Array Value} {qs : List (Value × List Int)} {v : Value} (h : SG w n s c mk lane (.map es cl) robin (.map es2 cl2) og ouf hv sp ring) (hq : Fq w n B qs v) (hc : Ch (n :: v.ownBlock.toList) w w1) (hb : w1.heap[n]? = some (.cells ouf' 168 (0, 0))) :
    SG w1 n s c mk lane (.map es cl) robin (.map es2 cl2) og ouf' hv sp ring := by
  have hs := h.s0
  exact ⟨hb, hc.at_ h.out (notin_c hq h.out (by decide) (by omega)), hc.at_ h.box (notin_c hq h.box (by decide) (by omega)), hc.at_ h.ids (notin_c hq h.ids (by decide) (by omega)), hc.at_ h.tmp (notin_cM hq h.tmp (by omega)), hc.at_ h.tab (notin_c hq h.tab (by decide) (by omega)), hc.at_ h.lnm (notin_cM hq h.lnm (by omega)), hc.at_ h.ln (notin_c hq h.ln (by decide) (by omega)), hc.at_ h.rbm (notin_cM hq h.rbm (by omega)), hc.at_ h.rb (notin_c hq h.rb (by decide) (by omega)), hc.at_ h.sch (notin_c hq h.sch (by decide) (by omega)), hc.at_ h.rst (notin_cM hq h.rst (by omega)), hc.at_ h.str (notin_c hq h.str (by decide) (by omega)), hc.at_ h.snd (notin_c hq h.snd (by decide) (by omega)), hc.at_ h.stg (notin_c hq h.stg (by decide) (by omega)), h.s0⟩
set_option maxRecDepth 100000 in
set_option maxHeartbeats 4000000 in
theorem step_syn {w : World} {n s ge r cap B : Nat} {cur : Array Value} {c : Cf} (hc : CfOk c) {robin : Array Value} {rbe : Array MapEntry} {rbc : Nat} {hv sp : Int} {ring : Array Value} {v : Value} {qs : List (Value × List Int)} (hB : n + 21 ≤ B) (hBw : B ≤ w.heap.size) (hqs : qs.length ≤ 100000) (hqt : (tot qs : Int) < c.out)
    (h : SG w n s c 0 (laneC (.slice (some ⟨r, 0, none⟩) 1 cap) (n + 10) 1) (.map #[⟨kp, pt ge, 0⟩] 1) robin (.map rbe rbc) 0 (ouC v (tot qs)) hv sp ring) (hq : Fq w n B qs v) (he : w.heap[ge]? = some (.cells (syn1 false) 209 (0, 0)))
    (hr : w.heap[r]? = some (.cells cur 199 (0, 0))) (hx : cur[0]? = some (pt ge)) (hc1 : 1 ≤ cap) (hc2 : cap ≤ maxLen) (hE : ∀ W, Below n w W → Frm W) (hge : n + 21 ≤ ge) :
    Calls Tryz.prog 14 #[pt (n + 2)] w fun e w' => e = .returned (.bool true) ∧ Ch ([n + 11, ge, n + 10, n + 4, n] ++ v.ownBlock.toList) w w' ∧ ∃ A k y v', SG w' n s c 1 (laneC (.slice A 0 k) (n + 10) 0) (.map #[] 1) robin (.map rbe rbc) 0 (ouC v' (tot (qs ++ [(y, enc 0 1 1 1 0)]))) hv sp ring ∧ Fq w' n B (qs ++ [(y, enc 0 1 1 1 0)]) v' := by
  have c6 : w.cell? ⟨n + 2, 6, none⟩ = some (.int .i64 c.out) := cell_blk h.box rfl
  have c12 : w.cell? ⟨n + 2, 12, none⟩ = some (.pointer (some ⟨n + 14, 0, none⟩)) := cell_blk h.box rfl
  have c17 : w.cell? ⟨n + 2, 17, none⟩ = some (.pointer (some ⟨n + 1, 0, none⟩)) := cell_blk h.box rfl
  have c20 : w.cell? ⟨n + 2, 20, none⟩ = some .nilIface := cell_blk h.box rfl
  have ho := hc.o2
  have HLn : ∀ k, Calls Tryz.prog 35 #[.pointer (some ⟨n + 1, 0, none⟩)] (w.drewN k) fun e w' => e = .returned (.int .i64 (tot qs - 0)) ∧ ∃ m, w' = (w.drewN k).drewN m := fun k => olen_any (w := w.drewN k) h.ouf h.out (by decide) (by omega) (by omega)
  have d1 : decide (c.out ≤ (tot qs : Int)) = false := by simp; omega
  have d2 : decide (c.out ≤ (tot qs : Int) - 0) = false := by simp; omega
  have H := Lib.hid h
  have HQ := Lib.hid hq
  have hzn := h.s0
  have HN := Lib.hid (fun (x : Value) k => snext_t (w := w.drewN k) (x := x) (fun W hW => hE W (((Ch.refl _ w).drewN k).trans hW (fun j hj => .inl hj) |>.below (by simp; omega) (by have := blk_lt h.rst; omega))) h.sch h.ln he h.lnm hr hx hc1 hc2)
  have hrs : n + 15 < w.heap.size := blk_lt h.rst
  have hgs : ge < w.heap.size := blk_lt he
  have ngs : ge ≠ s := type_ne he h.str (by decide)
  have ngd : ge ≠ s - 2 := type_ne he h.snd (by decide)
  have ngr : ge ≠ s + 1 := type_ne he h.stg (by decide)
  have HEN := Lib.hid he
  clear h hq he hr hx hE
  go_enter Tryz.func14, Tryz.ntmps14
  unfold pt
  go_wp2_with fail
  go_quiet ((go_at_call 35; exact Calls.quiet_of (HLn _)))
  go_wp2_with fail
  refine (HN.out _ nq).mono ?_
  rintro e w1 ⟨rfl, hc1', A, k, hl1, hm1⟩
  have hc01 : Ch [n + 11, ge, n + 10] w w1 := ((Ch.refl _ w).drewN nq).trans hc1' (fun j hj => .inl hj)
  have h0 := H.out
  have h1 : SG w1 n s c 0 (laneC (.slice A 0 k) (n + 10) 0) (.map #[] 1) robin (.map rbe rbc) 0 (ouC v (tot qs)) hv sp ring :=
    ⟨hc01.at_ h0.ouf (by simp; omega), hc01.at_ h0.out (by simp; omega), hc01.at_ h0.box (by simp; omega), hc01.at_ h0.ids (by simp; omega), hc01.at_ h0.tmp (by simp; omega), hc01.at_ h0.tab (by simp; omega), hm1, hl1, hc01.at_ h0.rbm (by simp; omega), hc01.at_ h0.rb (by simp; omega), hc01.at_ h0.sch (by simp; omega), hc01.at_ h0.rst (by simp; omega), hc01.at_ h0.str (by simp; omega), hc01.at_ h0.snd (by simp; omega), hc01.at_ h0.stg (by simp; omega), h0.s0⟩
  have H1 := Lib.hid h1
  have HC01 := Lib.hid hc01
  clear hc1' hc01 hl1 hm1 h0 c6 c12 c17 c20 HLn d1 d2
  have c8 : w1.cell? ⟨n + 2, 8, none⟩ = some (.pointer (some ⟨n + 4, 0, none⟩)) := cell_blk h1.box rfl
  have zb : n + 2 < w1.heap.size := blk_lt h1.box
  have zb1 : n + 2 < w1.heap.size + 1 := by omega
  clear h1
  unfold hdA
  go_wp2_with fail
  obtain ⟨w2, hw2⟩ : ∃ w2, w2 = (w1.alloc (.cells #[.int .u8 0, .int .u8 1, .int .u16 1, .int .u32 1, .int .u32 0, .slice none 0 0] 89)).alloc (.cells #[.int .u8 0, .int .u8 1, .int .u16 1, .int .u32 1, .int .u32 0] 87) := ⟨_, rfl⟩
  rw [← hw2]
  have hb2 : Below w1.heap.size w1 w2 := by rw [hw2]; exact ((Below.refl _ _).alloc (Nat.le_refl _) _).alloc (by simp) _
  have f2 : w2.heap[w1.heap.size]? = some (.cells (fr6 1 1 1 0 (.slice none 0 0)) 89 (0, 0)) := by rw [hw2]; exact alloc_old _ (alloc_is _ rfl)
  have g2 : w2.heap[w1.heap.size + 1]? = some (.cells #[.int .u8 0, .int .u8 1, .int .u16 1, .int .u32 1, .int .u32 0] 87 (0, 0)) := by rw [hw2]; exact alloc_is _ (by simp)
  have h2 := H1.out.step (Ch.of_below (L := []) hb2)
  have c8' : w2.cell? ⟨n + 2, 8, none⟩ = some (.pointer (some ⟨n + 4, 0, none⟩)) := cell_blk h2.box rfl
  have e3 : w2.cell? ⟨w1.heap.size + 1, 3, none⟩ = some (.int .u32 1) := cell_blk g2 rfl
  have HS := Lib.hid (sent_1 (w := w2.drew) h2.ids)
  have H2 := Lib.hid h2
  have HB2 := Lib.hid hb2
  have FG := Lib.hid (And.intro f2 g2)
  clear hb2 f2 g2 h2 hw2 c8 zb zb1
  go_region_with (go_at_call 38; refine HS.out.mono ?_; rintro e w3 ⟨rfl, rfl⟩)
  all_goals
    obtain ⟨w3, hw3⟩ : ∃ w3, w3 = (w2.setCell ⟨n + 4, 4, none⟩ (.int .u32 1)).drew := ⟨_, rfl⟩
    rw [← hw3]
    have h2 := H2.out
    have hc3 : Ch [n + 4] w2 w3 := by rw [hw3]; exact ((Ch.refl _ _).set (.inl (by simp)) _).drew
    have hi3 : w3.heap[n + 4]? = some (.cells #[.int .u64 1, .int .u64 4294967295, .int .u64 1, .int .u64 3, .int .u32 1, .int .u32 0] 109 (0, 0)) := by rw [hw3]; exact drew_blk (set_is h2.ids rfl)
    have h3 : SG w3 n s c 1 (laneC (.slice A 0 k) (n + 10) 0) (.map #[] 1) robin (.map rbe rbc) 0 (ouC v (tot qs)) hv sp ring :=
      ⟨hc3.at_ h2.ouf (by simp), hc3.at_ h2.out (by simp), hc3.at_ h2.box (by simp), hi3, hc3.at_ h2.tmp (by simp), hc3.at_ h2.tab (by simp), hc3.at_ h2.lnm (by simp), hc3.at_ h2.ln (by simp), hc3.at_ h2.rbm (by simp), hc3.at_ h2.rb (by simp), hc3.at_ h2.sch (by simp), hc3.at_ h2.rst (by simp), hc3.at_ h2.str (by simp; omega), hc3.at_ h2.snd (by simp; omega), hc3.at_ h2.stg (by simp; omega), h2.s0⟩
    have q1 := HQ.out.step HC01.out (by simp; omega) (((NoQ.nil _).map H.out.lnm |>.cells HEN.out (by decide) (by decide)).cells H.out.ln (by decide) (by decide))
    have q3 := (q1.step (Ch.of_below (L := []) HB2.out) (by simp) (NoQ.nil _)).step hc3 (by simp) ((NoQ.nil _).cells h2.ids (by decide) (by decide))
    have f3 := hc3.at_ FG.out.1 (by have := blk_lt H1.out.rst; simp; omega)
    have g3 := hc3.at_ FG.out.2 (by have := blk_lt H1.out.rst; simp; omega)
    have hB3 : B ≤ w3.heap.size := by have := HC01.out.size; have := HB2.out.size; have := hc3.size; omega
    have HP := Lib.hid (oput_any (w := w3.drew) (n := n) (B := B) (og := .int .i64 0) (q3.step (L := []) (Ch.refl _ _).drew (by simp) (NoQ.nil _)) h3.out 1 1 1 0 none 0 0 [] (bs_nil _) hB3 (by omega) (by omega) (by omega) (by omega) (by omega) (by omega) (by omega) (by omega) (by omega) (by omega) (by omega) rfl)
    have c17 : w3.cell? ⟨n + 2, 17, none⟩ = some (.pointer (some ⟨n + 1, 0, none⟩)) := cell_blk h3.box rfl
    have a0 : w3.cell? ⟨w1.heap.size, 0, none⟩ = some (.int .u8 0) := cell_blk f3 rfl
    have a1 : w3.cell? ⟨w1.heap.size, 1, none⟩ = some (.int .u8 1) := cell_blk f3 rfl
    have a2 : w3.cell? ⟨w1.heap.size, 2, none⟩ = some (.int .u16 1) := cell_blk f3 rfl
    have a3 : w3.cell? ⟨w1.heap.size, 3, none⟩ = some (.int .u32 1) := cell_blk f3 rfl
    have a4 : w3.cell? ⟨w1.heap.size, 4, none⟩ = some (.int .u32 0) := cell_blk f3 rfl
    have a5 : w3.cell? ⟨w1.heap.size, 5, none⟩ = some (.slice none 0 0) := cell_blk f3 rfl
    have H3 := Lib.hid h3
    have HC3 := Lib.hid hc3
    have Q3 := Lib.hid q3
    clear h2 hc3 hi3 h3 q1 q3 f3 g3 hB3 hw3 c8' e3
    unfold hdA at HP
    go_wp2_with fail
    go_region_with (go_at_call 40; refine HP.out.mono ?_; rintro e w4 ⟨rfl, hk⟩; have K := Lib.hid hk; clear hk)
    all_goals
      go_wp2_with fail
      go_ret
      have hk := K.out
      obtain ⟨hc4, y, v', q4⟩ := hk
      rw [List.append_nil] at q4
      have hca : Ch ([n + 11, ge, n + 10, n + 4, n] ++ v.ownBlock.toList) w w1 := HC01.out.mono fun j hj => .inl (List.mem_append_left _ (by simp only [List.mem_cons, List.not_mem_nil, or_false] at hj ⊢; omega))
      have hcb := ((hca.trans (Ch.of_below (L := []) HB2.out) (fun j hj => by cases hj)).trans HC3.out (fun j hj => .inl (List.mem_append_left _ (by simp only [List.mem_cons, List.not_mem_nil, or_false] at hj ⊢; omega)))).drew
      exact ⟨rfl, hcb.trans hc4 (fun j hj => .inl (by rcases List.mem_cons.1 hj with e | hj; exact List.mem_append_left _ (by simp [e]); exact List.mem_append_right _ hj)), A, k, y, v', (H3.out.step (Ch.refl _ _).drew).put (Q3.out.step (L := []) (Ch.refl _ _).drew (by simp) (NoQ.nil _)) hc4 q4.box, q4⟩
end Go.Proofs.YtnpmafnhbbaokaaGreatDoor
