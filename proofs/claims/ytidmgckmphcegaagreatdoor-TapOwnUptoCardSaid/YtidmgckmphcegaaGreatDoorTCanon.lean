/-
 TapCanon, walked: a line that is read is the line of what was read.
-/
import Derived.Test.YtidmgckmphcegaaGreatDoorMM
import Derived.Test.YtidmgckmphcegaaGreatDoorTSame
namespace Go.Proofs.YtidmgckmphcegaaGreatDoor
open Go.RowKit Go.Proofs.YtidmgckmphcegaaGreatDoorW.PrintWords Go.Proofs.YtidmgckmphcegaaGreatDoorW.PrintLast Go.Proofs.YtidmgckmphcegaaGreatDoor.Px
set_option linter.unusedVariables false
set_option linter.unusedSimpArgs false
theorem bs_nil (w : World) : Bs w none 0 0 [] := ⟨rfl, Nat.le_refl _, by omega, (by simp), fun _ => ⟨rfl, rfl⟩, fun h => absurd h (by simp)⟩
theorem EV_c {sa : Nat → Addr} {w : World} {c : Nat} (h : c = 40 ∨ c = 41 ∨ c = 15) : EV sa w c 0 (sv (sa c)) := .inr (.inl ⟨by omega, by omega, rfl⟩)
theorem FB.of_blk {g : Nat} {ver ty fl st ln : Int} {A : Option Addr} {n c : Nat} {w : World} (h : w.heap[g]? = some (.cells #[.int .u8 ver, .int .u8 ty, .int .u16 fl, .int .u32 st, .int .u32 ln, .slice A n c] 28 (0, 0))) : FB g ver ty fl st ln A n c w :=
 ⟨cell_blk h rfl, cell_blk h rfl, cell_blk h rfl, cell_blk h rfl, cell_blk h rfl, cell_blk h rfl⟩
theorem tparse {sa : Nat → Addr} {w : World} (hE : TE sa w) (s : ByteArray) (hs : s.size ≤ 4294967280) : Calls Tryz.prog 21 #[.string s] w (ParseTo sa w s.data.toList) :=
 parse_any s (by omega) w hE.good hE.pow hE.wrd hE.ner (fun w' hb => splits_small 32 s w' (by omega) (hE.mxl.below hb))
end Go.Proofs.YtidmgckmphcegaaGreatDoor
