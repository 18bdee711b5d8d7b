/-
 What the reference's functions compute (as the kit's print has them), said by the plain words of the Tap laws.
-/
import Derived.Test.YtidmgckmphcegaaGreatDoorTRPr
import Derived.Test.YtidmgckmphcegaaGreatDoorTRAsm
import Derived.Test.YtidmgckmphcegaaGreatDoorMF
namespace Go.Proofs.YtidmgckmphcegaaGreatDoor
open Go Go.RowKit Go.Proofs.YtidmgckmphcegaaGreatDoorW.PrintWords Go.Proofs.YtidmgckmphcegaaGreatDoorW.PrintLast Go.Proofs.YtidmgckmphcegaaGreatDoor.PTapAssembles
set_option linter.unusedVariables false
set_option linter.unusedSimpArgs false
theorem w64 {x : Int} (h0 : -9223372036854775808 ≤ x) (h1 : x ≤ 9223372036854775807) : wrap64 x = x := by unfold wrap64; omega
theorem bt_drop (s : ByteArray) {i : Nat} (h : i < s.size) : ∃ c : UInt8, s.data.toList.drop i = c :: s.data.toList.drop (i + 1) ∧ bt s (i : Int) = c.toNat := by
 have hl : i < s.data.toList.length := by simpa using h
 refine ⟨s.data.toList[i], List.drop_eq_getElem_cons hl, ?_⟩
 unfold bt
 rw [dif_pos (by simpa using h)]
 simp [ByteArray.getElem_eq_getElem_data]
theorem ex_data (s : ByteArray) (a b : Nat) : (s.extract a b).data.toList = (s.data.toList.drop a).take (b - a) := by
 rw [Lib.extract_data]
theorem drop_cat (l : List UInt8) {a i : Nat} (h : a ≤ i) : l.drop a = (l.drop a).take (i - a) ++ l.drop i := by
 conv => lhs; rw [← List.take_append_drop (i - a) (l.drop a), List.drop_drop, show a + (i - a) = i by omega]
theorem split_l0 (s : ByteArray) (hs : s.size < 8796093022208) : ∀ (n i from_ : Nat) (acc : List ByteArray) (k : Nat), s.size = i + n → from_ ≤ i → acc.length ≤ i → n + 1 ≤ k → (∀ x ∈ (s.data.toList.drop from_).take (i - from_), x ≠ 32) →
    ∃ r, culvertref26_split.l0 k s acc from_ i = some r ∧ r.map (·.data.toList) = acc.map (·.data.toList) ++ spl 32 (s.data.toList.drop from_)
 | 0, i, from_, acc, k + 1, hn, hf, ha, hk, hx => by
   have h1 : ¬ ((i : Int) < (s.size : Int)) := by omega
   have h2 : (from_ : Int) ≤ (s.size : Int) := by omega
   have hlt : acc.length < 8796093022208 := by omega
   unfold culvertref26_split.l0
   rw [if_neg h1, if_pos (by omega), if_pos h2, if_pos hlt]
   refine ⟨_, rfl, ?_⟩
   have hall : ∀ x ∈ s.data.toList.drop from_, x ≠ 32 := by
    have e := drop_cat s.data.toList hf
    rw [List.drop_of_length_le (i := i) (by simp; omega), List.append_nil] at e
    rw [e]; exact hx
   rw [List.map_append, spl_none _ hall]
   congr 1
   simp only [List.map_cons, List.map_nil, ex_data, Int.toNat_natCast]
   rw [List.take_of_length_le (by simp)]
 | n + 1, i, from_, acc, k + 1, hn, hf, ha, hk, hx => by
   have hi : i < s.size := by omega
   obtain ⟨c, hc, hb⟩ := bt_drop s hi
   have e := drop_cat s.data.toList hf
   have hw : wrap64 ((i : Int) + 1) = ((i + 1 : Nat) : Int) := by rw [w64 (by omega) (by omega)]; omega
   have hlt : acc.length < 8796093022208 := by omega
   unfold culvertref26_split.l0
   rw [if_pos (by omega), if_pos (by omega), hb, hw]
   by_cases h32 : c = 32
   · rw [if_pos (by rw [h32]; rfl), if_pos (by omega), if_pos (by omega), if_pos (by omega), if_pos hlt]
     obtain ⟨r, h1, h2⟩ := split_l0 s hs n (i + 1) (i + 1) (acc ++ [s.extract (from_ : Int).toNat (i : Int).toNat]) k (by omega) (Nat.le_refl _) (by simp; omega) (by omega) (by simp)
     refine ⟨r, h1, ?_⟩
     rw [h2, List.map_append, List.append_assoc]
     congr 1
     simp only [List.map_cons, List.map_nil, ex_data, Int.toNat_natCast]
     rw [e, hc, h32, spl_app 32 hx]
     rw [List.take_append_of_le_length (by simp; omega), List.take_take, Nat.min_self]
     rfl
   · rw [if_neg (by intro h; exact h32 (UInt8.toNat.inj (by have e9 : (((32 : UInt8).toNat : Nat) : Int) = 32 := rfl; omega)))]
     exact split_l0 s hs n (i + 1) from_ acc k (by omega) (by omega) (by omega) (by omega) (fun x hx' => by
      have e1 : i + 1 - from_ = (i - from_) + 1 := by omega
      rw [e1, List.take_add, List.drop_drop, show from_ + (i - from_) = i by omega, hc] at hx'
      rcases List.mem_append.1 hx' with h | h
      · exact hx x h
      · simp at h; subst h; exact h32)
theorem split_f (s : ByteArray) (hs : s.size < 8796093022208) : ∃ r, culvertref26_split.f (s.size + 1) s = some r ∧ r.map (·.data.toList) = spl 32 s.data.toList := by
 obtain ⟨r, h1, h2⟩ := split_l0 s hs s.size 0 0 [] (s.size + 1) (by omega) (Nat.le_refl _) (by simp) (Nat.le_refl _) (by simp)
 exact ⟨r, h1, by simpa using h2⟩
theorem lines_l0 (s : ByteArray) (hs : s.size < 8796093022208) : ∀ (n i from_ : Nat) (acc : List ByteArray) (k : Nat), s.size = i + n → from_ ≤ i → acc.length ≤ i → n + 1 ≤ k → (∀ x ∈ (s.data.toList.drop from_).take (i - from_), x ≠ 10) →
    ∃ r, culvertref25_Lines.l0 k s acc from_ i = some r ∧ r.map (·.data.toList) = acc.map (·.data.toList) ++ spl 10 (s.data.toList.drop from_)
 | 0, i, from_, acc, k + 1, hn, hf, ha, hk, hx => by
   have h1 : ¬ ((i : Int) < (s.size : Int)) := by omega
   have h2 : (from_ : Int) ≤ (s.size : Int) := by omega
   have hlt : acc.length < 8796093022208 := by omega
   unfold culvertref25_Lines.l0
   rw [if_neg h1, if_pos (by omega), if_pos h2, if_pos hlt]
   refine ⟨_, rfl, ?_⟩
   have hall : ∀ x ∈ s.data.toList.drop from_, x ≠ 10 := by
    have e := drop_cat s.data.toList hf
    rw [List.drop_of_length_le (i := i) (by simp; omega), List.append_nil] at e
    rw [e]; exact hx
   rw [List.map_append, spl_none _ hall]
   congr 1
   simp only [List.map_cons, List.map_nil, ex_data, Int.toNat_natCast]
   rw [List.take_of_length_le (by simp)]
 | n + 1, i, from_, acc, k + 1, hn, hf, ha, hk, hx => by
   have hi : i < s.size := by omega
   obtain ⟨c, hc, hb⟩ := bt_drop s hi
   have e := drop_cat s.data.toList hf
   have hw : wrap64 ((i : Int) + 1) = ((i + 1 : Nat) : Int) := by rw [w64 (by omega) (by omega)]; omega
   have hlt : acc.length < 8796093022208 := by omega
   unfold culvertref25_Lines.l0
   rw [if_pos (by omega), if_pos (by omega), hb, hw]
   by_cases h32 : c = 10
   · rw [if_pos (by rw [h32]; rfl), if_pos (by omega), if_pos (by omega), if_pos (by omega), if_pos hlt]
     obtain ⟨r, h1, h2⟩ := lines_l0 s hs n (i + 1) (i + 1) (acc ++ [s.extract (from_ : Int).toNat (i : Int).toNat]) k (by omega) (Nat.le_refl _) (by simp; omega) (by omega) (by simp)
     refine ⟨r, h1, ?_⟩
     rw [h2, List.map_append, List.append_assoc]
     congr 1
     simp only [List.map_cons, List.map_nil, ex_data, Int.toNat_natCast]
     rw [e, hc, h32, spl_app 10 hx]
     rw [List.take_append_of_le_length (by simp; omega), List.take_take, Nat.min_self]
     rfl
   · rw [if_neg (by intro h; exact h32 (UInt8.toNat.inj (by have e9 : (((10 : UInt8).toNat : Nat) : Int) = 10 := rfl; omega)))]
     exact lines_l0 s hs n (i + 1) from_ acc k (by omega) (by omega) (by omega) (by omega) (fun x hx' => by
      have e1 : i + 1 - from_ = (i - from_) + 1 := by omega
      rw [e1, List.take_add, List.drop_drop, show from_ + (i - from_) = i by omega, hc] at hx'
      rcases List.mem_append.1 hx' with h | h
      · exact hx x h
      · simp at h; subst h; exact h32)
theorem lines_f (s : ByteArray) (hs : s.size < 8796093022208) : ∃ r, culvertref25_Lines.f (s.size + 1) s = some r ∧ r.map (·.data.toList) = spl 10 s.data.toList := by
 obtain ⟨r, h1, h2⟩ := lines_l0 s hs s.size 0 0 [] (s.size + 1) (by omega) (Nat.le_refl _) (by simp) (Nat.le_refl _) (by simp)
 exact ⟨r, h1, by simpa using h2⟩
/-! Numbers. -/
def rEnd (b : Bool) : Option Int → Int × Bool
 | none => (0, false)
 | some m => if b then (m, true) else (wrap64 (-m), decide (-9223372036854775807 ≤ m))
theorem num_l0 (b : Bool) (d : ByteArray) (hd : d.size ≤ 4611686018427387904) : ∀ (n i : Nat) (v : Int) (k : Nat), d.size = i + n → -9223372036854775808 ≤ v → v ≤ 0 → 2 * n + 1 ≤ k →
    culvertref25_Number.l0 k b d v i = some (rEnd b (rdig v (d.data.toList.drop i)))
 | 0, i, v, k + 1, hn, h0, h1, hk => by
   unfold culvertref25_Number.l0
   rw [if_neg (by omega), List.drop_of_length_le (by simp; omega), rdig]
   unfold rEnd
   cases b
   · rw [if_neg (by simp)]; simp
   · rw [if_pos rfl]; simp
 | n + 1, i, v, k + 2, hn, h0, h1, hk => by
   have hi : i < d.size := by omega
   obtain ⟨c, hc, hb⟩ := bt_drop d hi
   have hcl : c.toNat ≤ 255 := by have := c.toNat_lt; omega
   have hw : wrap64 ((i : Int) + 1) = ((i + 1 : Nat) : Int) := by rw [w64 (by omega) (by omega)]; omega
   unfold culvertref25_Number.l0
   rw [if_pos (by omega), if_pos (by omega), hb, hc, rdig]
   by_cases hlo : c.toNat < 48
   · rw [if_pos (by omega), if_pos (.inl hlo)]
     unfold culvertref25_Number.j4
     rw [if_pos rfl]; rfl
   · rw [if_neg (by omega)]
     unfold culvertref25_Number.j4
     by_cases hhi : 57 < c.toNat
     · rw [if_pos (by simp; omega), if_pos (.inr hhi)]; rfl
     · have hm : (((c.toNat : Nat) : Int) - 48) % 256 = (c.toNat : Int) - 48 := by omega
       rw [if_neg (show ¬ (decide (((c.toNat : Nat) : Int) > 57) = true) by simp; omega), if_neg (show ¬ (c.toNat < 48 ∨ 57 < c.toNat) by omega), if_pos (show (0 : Int) ≤ (i : Int) by omega), if_pos (show (i : Int) < (d.size : Int) by omega), hb, hm, hw]
       by_cases hv : v < -922337203685477580
       · rw [if_pos hv, if_pos (.inl hv)]; rfl
       · rw [if_neg hv]
         by_cases he : v = -922337203685477580
         · rw [if_pos he]
           by_cases h8 : 8 < (c.toNat : Int) - 48
           · rw [if_pos h8, if_pos (.inr ⟨he, h8⟩)]; rfl
           · rw [if_neg h8, if_neg (by omega), w64 (x := 10 * v) (by omega) (by omega), w64 (by omega) (by omega)]
             exact num_l0 b d hd n (i + 1) _ k (by omega) (by omega) (by omega) (by omega)
         · rw [if_neg he, if_neg (by omega), w64 (x := 10 * v) (by omega) (by omega), w64 (by omega) (by omega)]
           exact num_l0 b d hd n (i + 1) _ k (by omega) (by omega) (by omega) (by omega)
theorem rNum2_end (b : Bool) (d : List UInt8) (h : ¬ (d = [] ∨ d.headD 0 = 48 ∧ (1 < d.length ∨ b = true))) : rNum2 b d = rEnd b (rdig 0 d) := by
 unfold rNum2 rEnd
 rw [if_neg h]
 cases rdig 0 d <;> rfl
theorem num_j1 (b : Bool) (d : ByteArray) (hd : d.size ≤ 4611686018427387904) (k : Nat) (hk : 2 * d.size + 3 ≤ k) : culvertref25_Number.j1 k b d = some (rNum2 b d.data.toList) := by
 obtain ⟨k, rfl⟩ : ∃ k', k = k' + 1 + 1 := ⟨k - 2, by omega⟩
 have hl : d.data.toList.length = d.size := by simp
 rw [culvertref25_Number.j1]
 by_cases h0 : d.size = 0
 · have he : d.data.toList = [] := List.eq_nil_of_length_eq_zero (by omega)
   rw [if_pos (by omega)]
   rw [culvertref25_Number.j2]
   rw [if_pos rfl, rNum2, if_pos (.inl he)]
 · rw [if_neg (by omega), if_pos (by omega)]
   have h0' : 0 < d.size := by omega
   obtain ⟨c, hc, hb⟩ := bt_drop d h0'
   rw [List.drop_zero] at hc
   have hb0 : bt d 0 = c.toNat := hb
   have hl0 := num_l0 b d hd d.size 0 0 k (by omega) (by omega) (by omega) (by omega)
   rw [List.drop_zero] at hl0
   rw [hb0]
   by_cases h48 : c = 48
   · have e9 : (((48 : UInt8).toNat : Nat) : Int) = 48 := rfl
     rw [if_pos (by rw [h48]; rfl)]
     by_cases h1 : 1 < d.size
     · rw [if_pos (by omega)]
       rw [culvertref25_Number.j2]
       rw [if_pos rfl, rNum2, if_pos (.inr ⟨by rw [hc, h48]; rfl, .inl (by omega)⟩)]
     · rw [if_neg (by omega)]
       rw [culvertref25_Number.j2]
       cases b
       · rw [if_neg (by simp), rNum2_end false _ (by
           rintro (h | ⟨_, h | h⟩)
           · rw [hc] at h; cases h
           · omega
           · cases h)]
         exact hl0
       · rw [if_pos rfl, rNum2, if_pos (.inr ⟨by rw [hc, h48]; rfl, .inr rfl⟩)]
   · rw [if_neg (by intro h; exact h48 (UInt8.toNat.inj (by have e9 : (((48 : UInt8).toNat : Nat) : Int) = 48 := rfl; omega)))]
     rw [culvertref25_Number.j2]
     rw [if_neg (by simp), rNum2_end b _ (by
      rintro (h | ⟨h, _⟩)
      · rw [hc] at h; cases h
      · rw [hc] at h; exact h48 h)]
     exact hl0
theorem num_f (s : ByteArray) (hs : s.size ≤ 4611686018427387904) (k : Nat) (hk : 2 * s.size + 4 ≤ k) : culvertref25_Number.f k s = some (rNumber s.data.toList) := by
 obtain ⟨k, rfl⟩ : ∃ k', k = k' + 1 := ⟨k - 1, by omega⟩
 have hl : s.data.toList.length = s.size := by simp
 unfold culvertref25_Number.f rNumber
 by_cases h0 : s.size = 0
 · have he : s.data.toList = [] := List.eq_nil_of_length_eq_zero (by omega)
   have hbw : belowW s.data.toList = false := by rw [he]; rfl
   rw [if_neg (by omega), hbw]
   rw [culvertref25_Number.j0]
   rw [if_neg (by simp), num_j1 false s hs k (by omega)]
   rfl
 · obtain ⟨c, hc, hb⟩ := bt_drop s (show 0 < s.size by omega)
   rw [List.drop_zero] at hc
   have hb0 : bt s 0 = c.toNat := hb
   rw [if_pos (by omega), if_pos (by omega), hb0]
   have hbw : belowW s.data.toList = (((c.toNat : Nat) : Int) == 45) := by
    unfold belowW
    rw [hc, List.headD_cons, Bool.eq_iff_iff, beq_iff_eq, beq_iff_eq]
    have e9 : (((45 : UInt8).toNat : Nat) : Int) = 45 := rfl
    constructor
    · intro h; rw [h]; rfl
    · intro h; exact UInt8.toNat.inj (by omega)
   rw [← hbw]
   rw [culvertref25_Number.j0]
   cases hq : belowW s.data.toList
   · rw [if_neg (by simp), num_j1 false s hs k (by omega)]
     rfl
   · have hx : (s.extract 1 s.size).data.toList = s.data.toList.tail := by
       rw [ex_data, List.take_of_length_le (by simp), List.drop_one]
     have hz : (s.extract 1 s.size).size = s.size - 1 := by rw [ByteArray.size_extract]; omega
     rw [if_pos rfl, if_pos (by omega), num_j1 true _ (by omega) k (by omega), hx]
     rfl
theorem number_f (s : ByteArray) (hs : s.size ≤ 4611686018427387904) (k : Nat) (hk : 2 * s.size + 4 ≤ k) (lo hi : Int) : culvertref26_number.f k s lo hi = some ((rNumber s.data.toList).1, (rNumber s.data.toList).2 && decide (lo ≤ (rNumber s.data.toList).1) && decide ((rNumber s.data.toList).1 ≤ hi)) := by
 unfold culvertref26_number.f
 rw [num_f s hs k hk]
 obtain ⟨n, ok⟩ := rNumber s.data.toList
 simp only [Option.bind_some]
 cases ok
 · rw [if_neg (by simp)]; rfl
 · rw [if_pos rfl]
   by_cases h : n ≥ lo
   · rw [if_pos h, decide_eq_true (show lo ≤ n from h)]; rfl
   · rw [if_neg h, decide_eq_false (show ¬ lo ≤ n from h)]; rfl
/-! Byte lists' texts. -/
theorem plain_f (n : Nat) : culvertref25_plain.f (n : Int) = some (plainN n) := by
 unfold culvertref25_plain.f plainN
 by_cases h1 : 33 ≤ n
 · rw [if_pos (by omega)]
   by_cases h2 : n ≤ 126
   · rw [if_pos (by omega), decide_eq_true h1, decide_eq_true h2]
     congr 1
     rw [Bool.eq_iff_iff]; simp; omega
   · rw [if_neg (by omega), decide_eq_true h1, decide_eq_false h2]; rfl
 · rw [if_neg (by omega), decide_eq_false h1]; rfl
def hexI (c : UInt8) : Int := match hexV c with | some v => (v : Int) | none => -1
theorem value_17 : ∀ c : Fin 256, culvertref25_value.f 17 (c.1 : Int) = some (hexI (UInt8.ofNat c.1)) := by decide +kernel
theorem value_f (c : UInt8) (k : Nat) (hk : 17 ≤ k) : culvertref25_value.f k (c.toNat : Int) = some (hexI c) := by
 induction k with
 | zero => omega
 | succ k ih =>
   by_cases h : 17 ≤ k
   · exact culvertref25_value.mono _ _ _ (ih h)
   · obtain rfl : k = 16 := by omega
     have := value_17 ⟨c.toNat, c.toNat_lt⟩
     simpa using this
def readE (acc : List Int) : Option (List Int) → List Int × Int
 | none => ([], 41)
 | some d => (acc ++ d, 0)
theorem readE_cons (acc : List Int) (x : Int) (o : Option (List Int)) : readE (acc ++ [x]) o = readE acc (o.map (x :: ·)) := by
 cases o with
 | none => rfl
 | some d => simp [readE]
theorem readL_3 (h l : UInt8) (r : List UInt8) : readL (37 :: h :: l :: r) = match hexV h, hexV l with
    | some a, some b => if plainN (16 * a + b) then none else (readL r).map (((16 * a + b : Nat) : Int) :: ·)
    | _, _ => none := by
 rw [readL.eq_def]
 rfl
theorem readL_2 (r : List UInt8) (h : r.length ≤ 1) : readL (37 :: r) = none := by
 rw [readL.eq_def]
 match r, h with
 | [], _ => rfl
 | [_], _ => rfl
theorem readL_p (c : UInt8) (r : List UInt8) (h : plainN c.toNat = true) : readL (c :: r) = (readL r).map ((c.toNat : Int) :: ·) := by
 rw [readL.eq_def]
 simp only [h, if_true]
theorem readL_n (c : UInt8) (r : List UInt8) (h : plainN c.toNat = false) (h37 : c ≠ 37) : readL (c :: r) = none := by
 rw [readL.eq_def]
 simp only [h, Bool.false_eq_true, if_false, h37]
 cases r with
 | nil => rfl
 | cons y ys => cases ys <;> rfl
theorem rstep (z i n k d : Nat) (hd : 0 < d) (hn : z = i + n) (hi : i + d ≤ z) (hk : 2 * n + 20 ≤ k + d) : n - d < n ∧ z = i + d + (n - d) ∧ 2 * (n - d) + 20 ≤ k := by omega
set_option maxHeartbeats 1000000 in
theorem read_l0 (s : ByteArray) (hs : s.size < 140737488355328) (n : Nat) : ∀ (i : Nat) (acc : List Int) (k : Nat), s.size = i + n → acc.length ≤ i → 2 * n + 20 ≤ k →
    culvertref25_Read.l0 k s acc i = some (readE acc (readL (s.data.toList.drop i))) := by
 induction n using Nat.strongRecOn with
 | ind n ih =>
   intro i acc k hn ha hk
   obtain ⟨k, rfl⟩ : ∃ k', k = k' + 1 := ⟨k - 1, by omega⟩
   rw [culvertref25_Read.l0]
   by_cases hi : i < s.size
   · obtain ⟨c, hc, hb⟩ := bt_drop s hi
     have hcl : c.toNat ≤ 255 := by have := c.toNat_lt; omega
     have hw1 : wrap64 ((i : Int) + 1) = ((i + 1 : Nat) : Int) := by rw [w64 (by omega) (by omega)]; omega
     have hw2 : wrap64 ((i : Int) + 2) = ((i + 2 : Nat) : Int) := by rw [w64 (by omega) (by omega)]; omega
     have hlt : acc.length < 140737488355328 := by omega
     have e37 : (((37 : UInt8).toNat : Nat) : Int) = 37 := rfl
     rw [if_pos (show (i : Int) < (s.size : Int) by omega), if_pos (show (0 : Int) ≤ (i : Int) by omega), hb, hc]
     by_cases h37 : c = 37
     · have hp : plainN c.toNat = false := by rw [h37]; decide
       rw [if_pos (show ((c.toNat : Nat) : Int) = 37 by rw [h37]; rfl), hw1, hw2]
       by_cases h2 : i + 2 < s.size
       · obtain ⟨h, hc1, hb1⟩ := bt_drop s (show i + 1 < s.size by omega)
         obtain ⟨l, hc2, hb2⟩ := bt_drop s (show i + 2 < s.size by omega)
         rw [if_neg (show ¬ ((i + 2 : Nat) : Int) ≥ (s.size : Int) by omega), if_pos (show (0 : Int) ≤ ((i + 1 : Nat) : Int) by omega), if_pos (show ((i + 1 : Nat) : Int) < (s.size : Int) by omega), hb1, value_f h k (by omega)]
         simp only [Option.bind_some]
         rw [if_pos (show (0 : Int) ≤ ((i + 2 : Nat) : Int) by omega), if_pos (show ((i + 2 : Nat) : Int) < (s.size : Int) by omega), hb2, value_f l k (by omega)]
         simp only [Option.bind_some]
         rw [h37, hc1, hc2, readL_3]
         obtain ⟨k, rfl⟩ : ∃ k', k = k' + 1 := ⟨k - 1, by omega⟩
         cases hh : hexV h with
         | none =>
           have e1 : hexI h = -1 := by unfold hexI; rw [hh]
           rw [e1, if_pos (by decide), culvertref25_Read.j1, if_pos rfl]
           rfl
         | some a =>
           have e1 : hexI h = a := by unfold hexI; rw [hh]
           have ha16 := hexV_lt hh
           rw [e1, if_neg (show ¬ ((a : Int) < 0) by omega), culvertref25_Read.j1]
           cases hl : hexV l with
           | none =>
             have e2 : hexI l = -1 := by unfold hexI; rw [hl]
             rw [e2, if_pos (by decide)]
             rfl
           | some b =>
             have e2 : hexI l = b := by unfold hexI; rw [hl]
             have hb16 := hexV_lt hl
             have hv : (wrap64 (wrap64 (16 * (a : Int)) + (b : Int))) % 256 = ((16 * a + b : Nat) : Int) := by
              rw [w64 (x := 16 * (a : Int)) (by omega) (by omega), w64 (by omega) (by omega)]; omega
             rw [e2, if_neg (show ¬ (decide ((b : Int) < 0) = true) by simp), hv, plain_f]
             simp only [Option.bind_some]
             by_cases hpl : plainN (16 * a + b) = true
             · rw [if_pos hpl, hpl]
               simp only [if_true]
               rfl
             · have hpl' : plainN (16 * a + b) = false := by simpa using hpl
               have hw3 : wrap64 (((i + 2 : Nat) : Int) + 1) = ((i + 3 : Nat) : Int) := by rw [w64 (by omega) (by omega)]; omega
               have hs3 := rstep s.size i n k 3 (by decide) hn h2 (Nat.le_succ_of_le hk)
               have hi3 := ih (n - 3) hs3.1 (i + 3) (acc ++ [((16 * a + b : Nat) : Int)]) k hs3.2.1 (by rw [List.length_append, List.length_singleton]; exact Nat.add_le_add ha (by decide)) hs3.2.2
               rw [readE_cons] at hi3
               rw [if_neg hpl, if_pos hlt, hw2, hw3, hi3]
               simp only [hpl', Bool.false_eq_true, if_false]
       · rw [if_pos (show ((i + 2 : Nat) : Int) ≥ (s.size : Int) by omega), h37, readL_2 _ (by simp; omega)]
         rfl
     · rw [if_neg (by intro h; exact h37 (UInt8.toNat.inj (by omega))), plain_f]
       simp only [Option.bind_some]
       by_cases hpl : plainN c.toNat = true
       · have hs1 := rstep s.size i n k 1 (by decide) hn hi hk
         have hi1 := ih (n - 1) hs1.1 (i + 1) (acc ++ [((c.toNat : Nat) : Int)]) k hs1.2.1 (by rw [List.length_append, List.length_singleton]; exact Nat.add_le_add ha (by decide)) hs1.2.2
         rw [readE_cons] at hi1
         rw [if_pos hpl, if_pos hlt, hw1, hi1, readL_p _ _ hpl]
       · have hpl' : plainN c.toNat = false := by simpa using hpl
         rw [if_neg hpl, readL_n _ _ hpl' h37]
         rfl
   · rw [if_neg (show ¬ (i : Int) < (s.size : Int) by omega), List.drop_of_length_le (by simp; omega)]
     simp [readL, readE]
theorem tl_eq (s : ByteArray) (l : List UInt8) : s.toList = l ↔ s.data.toList = l := by rw [Lib.toList_data]
theorem read_f (s : ByteArray) (hs : s.size < 140737488355328) : culvertref25_Read.f (2 * s.size + 20) s = some (readE [] (read s.data.toList)) := by
 unfold culvertref25_Read.f read
 by_cases h1 : s.data.toList = [37]
 · rw [if_pos ((tl_eq _ _).2 h1), if_pos h1]; rfl
 · rw [if_neg (fun h => h1 ((tl_eq _ _).1 h)), if_neg h1]
   by_cases h2 : s.data.toList = []
   · rw [if_pos ((tl_eq _ _).2 h2), if_pos h2]; rfl
   · rw [if_neg (fun h => h2 ((tl_eq _ _).1 h)), if_neg h2]
     have := read_l0 s hs s.size 0 [] (2 * s.size + 20) (by omega) (Nat.le_refl _) (Nat.le_refl _)
     rw [List.drop_zero] at this
     exact this
/-! The first word. -/
def wEnd (s : ByteArray) (i : Nat) : Bool := match s.data.toList.drop i with | [] => true | c :: _ => blkB c
theorem words_l0 (s : ByteArray) (acc : List ByteArray) (st : Int) (i k : Nat) (hi : i ≤ s.size) : culvertref25_Words.l0 (k + 2) s acc st i = culvertref25_Words.j2 k s acc st i (wEnd s i) (wEnd s i && decide (st ≥ 0)) := by
 have hj : culvertref25_Words.l0 (k + 2) s acc st i = culvertref25_Words.j1 (k + 1) s acc st i (wEnd s i) := by
  rw [culvertref25_Words.l0, if_pos (by omega)]
  by_cases he : i = s.size
  · have : wEnd s i = true := by unfold wEnd; rw [List.drop_of_length_le (by simp; omega)]
    rw [if_pos (by omega), this]
  · obtain ⟨c, hc, hb⟩ := bt_drop s (show i < s.size by omega)
    have : wEnd s i = blkB c := by unfold wEnd; rw [hc]
    rw [if_neg (by omega), if_pos (by omega), if_pos (by omega), hb, this, blk_byte]
    unfold blkR
    by_cases h1 : c.toNat = 32
    · rw [if_pos (by rw [h1]; rfl), h1]; rfl
    · rw [if_neg (by omega)]
      by_cases h2 : c.toNat = 9
      · rw [if_pos (by rw [h2]; rfl), h2]; rfl
      · rw [if_neg (by omega)]
        have e : (((c.toNat : Nat) : Int) == 13) = (c.toNat == 13) := by
         rw [Bool.eq_iff_iff, beq_iff_eq, beq_iff_eq]; omega
        have e1 : (c.toNat == 32) = false := by simpa using h1
        have e2 : (c.toNat == 9) = false := by simpa using h2
        rw [e, e1, e2]; rfl
 rw [hj, culvertref25_Words.j1]
 cases wEnd s i
 · rw [if_neg (by decide)]; rfl
 · rw [if_pos rfl]; rfl
theorem wEnd_t {s : ByteArray} {i : Nat} (h : wEnd s i = true) : firstW (s.data.toList.drop i) = firstW (s.data.toList.drop (i + 1)) ∧ (s.data.toList.drop i).takeWhile (fun c => !blkB c) = [] := by
 unfold wEnd at h
 split at h
 · rename_i hd
   have : s.data.toList.drop (i + 1) = [] := by
    have h2 := congrArg (List.drop 1) hd
    rw [List.drop_drop] at h2
    exact h2
   rw [hd, this]
   exact ⟨rfl, rfl⟩
 · rename_i c r hd
   have : s.data.toList.drop (i + 1) = r := by
    have h2 := congrArg (List.drop 1) hd
    rw [List.drop_drop] at h2
    exact h2
   rw [hd, this]
   constructor
   · unfold firstW
     simp only [List.dropWhile_cons, h, if_true]
   · simp only [List.takeWhile_cons, h]; rfl
theorem wEnd_f {s : ByteArray} {i : Nat} (h : wEnd s i = false) : i < s.size ∧ firstW (s.data.toList.drop i) = some ((s.data.toList.drop i).takeWhile fun c => !blkB c) ∧ ∃ c, s.data.toList.drop i = c :: s.data.toList.drop (i + 1) ∧ blkB c = false := by
 by_cases hi : i < s.size
 · obtain ⟨c, hc, hb⟩ := bt_drop s hi
   have h1 : blkB c = false := by
    unfold wEnd at h
    rw [hc] at h
    exact h
   refine ⟨hi, ?_, c, hc, h1⟩
   rw [hc]
   unfold firstW
   simp only [List.dropWhile_cons, h1, Bool.false_eq_true, if_false]
   rw [if_neg (by simp)]
 · unfold wEnd at h
   rw [List.drop_of_length_le (by simp; omega)] at h
   cases h
theorem words_all (s : ByteArray) (hs : s.size < 8796093022208) : ∀ (n i k : Nat) (acc : List ByteArray), s.size + 1 = i + n → 3 * n + 3 ≤ k →
    (acc.length ≤ i → ∃ r, culvertref25_Words.l0 k s acc (-1) i = some (acc ++ r) ∧ r.head?.map (·.data.toList) = firstW (s.data.toList.drop i)) ∧
    (∀ st : Nat, st < i → i ≤ s.size → acc.length ≤ st → (∀ x ∈ (s.data.toList.drop st).take (i - st), blkB x = false) → ∃ r, culvertref25_Words.l0 k s acc st i = some (acc ++ r) ∧ r.head?.map (·.data.toList) = some ((s.data.toList.drop st).takeWhile fun c => !blkB c))
 | 0, i, k, acc, hn, hk => by
   obtain ⟨k, rfl⟩ : ∃ k', k = k' + 1 := ⟨k - 1, by omega⟩
   refine ⟨fun _ => ⟨[], ?_, ?_⟩, fun st h1 h2 => by omega⟩
   · rw [culvertref25_Words.l0, if_neg (by omega), List.append_nil]
   · rw [List.drop_of_length_le (by simp; omega)]; rfl
 | n + 1, i, k, acc, hn, hk => by
   obtain ⟨k, rfl⟩ : ∃ k', k = k' + 3 := ⟨k - 3, by omega⟩
   have hi : i ≤ s.size := by omega
   have hw : wrap64 ((i : Int) + 1) = ((i + 1 : Nat) : Int) := by rw [w64 (by omega) (by omega)]; omega
   refine ⟨fun ha => ?_, fun st hst _ ha hx => ?_⟩
   · rw [words_l0 s acc (-1) i (k + 1) hi, culvertref25_Words.j2, hw]
     have hd : (wEnd s i && decide ((-1 : Int) ≥ 0)) = false := by cases wEnd s i <;> rfl
     rw [hd, if_neg (by decide)]
     cases hq : wEnd s i
     · obtain ⟨h1, h2, c, hc, hb⟩ := wEnd_f hq
       rw [if_neg (by decide), if_pos (by decide)]
       obtain ⟨r, e1, e2⟩ := (words_all s hs n (i + 1) k acc (by omega) (by omega)).2 i (by omega) (by omega) ha (by
        intro x hx
        rw [hc, show i + 1 - i = 1 by omega] at hx
        simp only [List.take_succ_cons, List.take_zero, List.mem_singleton] at hx
        rw [hx]; exact hb)
       exact ⟨r, e1, by rw [e2, h2]⟩
     · rw [if_pos rfl]
       obtain ⟨r, e1, e2⟩ := (words_all s hs n (i + 1) k acc (by omega) (by omega)).1 (by omega)
       exact ⟨r, e1, by rw [e2, (wEnd_t hq).1]⟩
   · have hcat := drop_cat s.data.toList (show st ≤ i by omega)
     rw [words_l0 s acc st i (k + 1) hi, culvertref25_Words.j2, hw]
     have hlt : acc.length < 8796093022208 := by omega
     cases hq : wEnd s i
     · obtain ⟨h1, h2, c, hc, hb⟩ := wEnd_f hq
       rw [Bool.false_and, if_neg (by decide), if_neg (by decide), if_neg (by omega)]
       obtain ⟨r, e1, e2⟩ := (words_all s hs n (i + 1) k acc (by omega) (by omega)).2 st (by omega) (by omega) ha (by
        intro x hx'
        have e9 : (s.data.toList.drop st).take (i + 1 - st) = (s.data.toList.drop st).take (i - st) ++ [c] := by
         have e8 : (i + 1 - st) = (i - st) + 1 := by omega
         have e7 : ((s.data.toList.drop st).take (i - st)).length = i - st := by
          rw [List.length_take, List.length_drop, Array.length_toList]
          have : s.data.size = s.size := rfl
          omega
         rw [e8, hcat, hc, List.take_append, List.take_append]
         simp [e7]
        rw [e9] at hx'
        rcases List.mem_append.1 hx' with h | h
        · exact hx x h
        · rw [List.mem_singleton.1 h]; exact hb)
       exact ⟨r, e1, e2⟩
     · have hge : decide ((st : Int) ≥ 0) = true := decide_eq_true (by omega)
       rw [hge, Bool.true_and, if_pos rfl, if_pos (by omega), if_pos (by omega), if_pos (by omega), if_pos hlt]
       simp only [Option.bind_some, if_true]
       obtain ⟨r, e1, e2⟩ := (words_all s hs n (i + 1) k (acc ++ [s.extract (st : Int).toNat (i : Int).toNat]) (by omega) (by omega)).1 (by rw [List.length_append, List.length_singleton]; omega)
       refine ⟨s.extract (st : Int).toNat (i : Int).toNat :: r, by rw [e1, List.append_assoc]; rfl, ?_⟩
       rw [List.head?_cons, Option.map_some, ex_data, Int.toNat_natCast, Int.toNat_natCast]
       congr 1
       conv => rhs; rw [hcat]
       rw [List.takeWhile_append_of_pos (by intro x hx'; rw [hx x hx']; rfl), (wEnd_t hq).2, List.append_nil]
theorem words_f (s : ByteArray) (hs : s.size < 8796093022208) : ∃ r, culvertref25_Words.f (3 * s.size + 6) s = some r ∧ r.head?.map (·.data.toList) = firstW s.data.toList := by
 obtain ⟨r, e1, e2⟩ := (words_all s hs (s.size + 1) 0 (3 * s.size + 6) [] (by omega) (by omega)).1 (Nat.le_refl _)
 exact ⟨r, by rw [culvertref25_Words.f]; exact e1, by rw [e2, List.drop_zero]⟩
end Go.Proofs.YtidmgckmphcegaaGreatDoor
