/-
  culvertref01.SameBytes: two lists of bytes are one.
-/
import Derived.Test.YtfddhipdedcacaaDoorBs
import Derived.Laws.BytesArg
namespace Go.Proofs.YtfddhipdedcacaaDoor
open Go.RowKit
set_option linter.unusedVariables false
set_option linter.unusedSimpArgs false
theorem str_of {w : World} {A : Option Addr} {n c : Nat} {xs : List Int} (h : Bs w A n c xs) : (convert 38 9 (.slice A n c)).run Tryd.prog w = .ok (.string (strOfNums xs)) w := by
  rcases Nat.eq_zero_or_pos n with h0 | h0
  · subst h0
    have : xs = [] := List.eq_nil_of_length_eq_zero h.len
    subst this
    rw [run_convert_bytes_string w 38 9 5 A 0 c Tryd.underlying38 Tryd.underlying5 Tryd.underlying9]
    cases A <;> rfl
  · obtain ⟨b, o, rfl, hr⟩ := h.rd h0
    exact run_convert_bytes_arg w 38 5 Tryd.underlying38 Tryd.underlying5 b o n c xs h.len hr 9 Tryd.underlying9
set_option maxRecDepth 100000 in
theorem same_any {w : World} {A B : Option Addr} {n c m d : Nat} {xs ys : List Int} (hx : Bs w A n c xs) (hy : Bs w B m d ys) :
    Calls Tryd.prog 41 #[.slice A n c, .slice B m d] w fun e w' => e = .returned (.bool ((strOfNums xs).toList == (strOfNums ys).toList)) ∧ w' = w := by
  have h1 := str_of hx
  have h2 := str_of hy
  clear hx hy
  go_enter Tryd.func41, Tryd.ntmps41
  go_wp2_with fail
  go_ret
  exact ⟨rfl, rfl⟩
end Go.Proofs.YtfddhipdedcacaaDoor
