/-
  The world in which api's errors lie as they were laid; culvertlaw01.sentinel, errors.Is and Code over it.
-/
import Derived.Test.YtnpmafnhbbaokaaGreatDoorViol
namespace Go.Proofs.YtnpmafnhbbaokaaGreatDoor
open Go.RowKit

def snm : Nat → String
  | 1 => "culvert/api.ErrNil"
  | 2 => "culvert/api.ErrRange"
  | 3 => "culvert/api.ErrShort"
  | 4 => "culvert/api.ErrOverflow"
  | 5 => "culvert/api.ErrUnderflow"
  | 6 => "culvert/api.ErrFull"
  | 7 => "culvert/api.ErrEmpty"
  | 8 => "culvert/api.ErrTwice"
  | 9 => "culvert/api.ErrMissing"
  | 10 => "culvert/api.ErrConfig"
  | 11 => "culvert/api.ErrVersion"
  | 12 => "culvert/api.ErrType"
  | 13 => "culvert/api.ErrFlags"
  | 14 => "culvert/api.ErrID"
  | 15 => "culvert/api.ErrLength"
  | 16 => "culvert/api.ErrWindow"
  | 17 => "culvert/api.ErrCredit"
  | 18 => "culvert/api.ErrParity"
  | 19 => "culvert/api.ErrReused"
  | 20 => "culvert/api.ErrUnknown"
  | 21 => "culvert/api.ErrFlood"
  | 22 => "culvert/api.ErrPing"
  | 23 => "culvert/api.ErrState"
  | 24 => "culvert/api.ErrClosed"
  | 25 => "culvert/api.ErrEOF"
  | 26 => "culvert/api.ErrReset"
  | 27 => "culvert/api.ErrCut"
  | 28 => "culvert/api.ErrProtocol"
  | 29 => "culvert/api.ErrPeer"
  | 30 => "culvert/api.ErrAway"
  | 31 => "culvert/api.ErrLimit"
  | 32 => "culvert/api.ErrExhausted"
  | 33 => "culvert/api.ErrNoStream"
  | 34 => "culvert/api.ErrDead"
  | 35 => "culvert/api.ErrNoConn"
  | 36 => "culvert/api.ErrDraining"
  | 37 => "culvert/api.ErrLive"
  | 38 => "culvert/api.ErrHandle"
  | 39 => "culvert/api.ErrHistory"
  | 40 => "culvert/api.ErrWord"
  | 41 => "culvert/api.ErrArgument"
  | 42 => "culvert/api.ErrMany"
  | _ => ""
def stx : Nat → List UInt8
  | 1 => [99, 117, 108, 118, 101, 114, 116, 58, 32, 97, 32, 110, 105, 108, 32, 111, 98, 106, 101, 99, 116]
  | 2 => [99, 117, 108, 118, 101, 114, 116, 58, 32, 97, 32, 110, 117, 109, 98, 101, 114, 32, 111, 117, 116, 115, 105, 100, 101, 32, 105, 116, 115, 32, 114, 97, 110, 103, 101]
  | 3 => [99, 117, 108, 118, 101, 114, 116, 58, 32, 116, 111, 111, 32, 102, 101, 119, 32, 98, 121, 116, 101, 115]
  | 4 => [99, 117, 108, 118, 101, 114, 116, 58, 32, 97, 32, 115, 117, 109, 32, 97, 98, 111, 118, 101, 32, 50, 94, 51, 50, 45, 49]
  | 5 => [99, 117, 108, 118, 101, 114, 116, 58, 32, 108, 101, 115, 115, 32, 116, 104, 97, 110, 32, 105, 115, 32, 116, 97, 107, 101, 110, 32, 97, 119, 97, 121]
  | 6 => [99, 117, 108, 118, 101, 114, 116, 58, 32, 110, 111, 32, 114, 111, 111, 109]
  | 7 => [99, 117, 108, 118, 101, 114, 116, 58, 32, 110, 111, 116, 104, 105, 110, 103, 32, 116, 104, 101, 114, 101]
  | 8 => [99, 117, 108, 118, 101, 114, 116, 58, 32, 116, 104, 101, 114, 101, 32, 97, 108, 114, 101, 97, 100, 121]
  | 9 => [99, 117, 108, 118, 101, 114, 116, 58, 32, 110, 111, 116, 32, 116, 104, 101, 114, 101]
  | 10 => [99, 117, 108, 118, 101, 114, 116, 58, 32, 97, 32, 99, 111, 110, 102, 105, 103, 117, 114, 97, 116, 105, 111, 110, 32, 116, 104, 97, 116, 32, 109, 97, 121, 32, 110, 111, 116, 32, 98, 101]
  | 11 => [99, 117, 108, 118, 101, 114, 116, 58, 32, 97, 110, 111, 116, 104, 101, 114, 32, 118, 101, 114, 115, 105, 111, 110, 32, 116, 104, 97, 110, 32, 48]
  | 12 => [99, 117, 108, 118, 101, 114, 116, 58, 32, 110, 111, 32, 116, 121, 112, 101, 32, 111, 102, 32, 102, 114, 97, 109, 101]
  | 13 => [99, 117, 108, 118, 101, 114, 116, 58, 32, 102, 108, 97, 103, 115, 32, 116, 104, 97, 116, 32, 116, 104, 101, 32, 116, 121, 112, 101, 32, 109, 97, 121, 32, 110, 111, 116, 32, 104, 97, 118, 101]
  | 14 => [99, 117, 108, 118, 101, 114, 116, 58, 32, 97, 32, 115, 116, 114, 101, 97, 109, 39, 115, 32, 110, 117, 109, 98, 101, 114, 32, 116, 104, 97, 116, 32, 116, 104, 101, 32, 116, 121, 112, 101, 32, 109, 97, 121, 32, 110, 111, 116, 32, 104, 97, 118, 101]
  | 15 => [99, 117, 108, 118, 101, 114, 116, 58, 32, 97, 32, 108, 101, 110, 103, 116, 104, 32, 116, 104, 97, 116, 32, 109, 97, 121, 32, 110, 111, 116, 32, 98, 101]
  | 16 => [99, 117, 108, 118, 101, 114, 116, 58, 32, 109, 111, 114, 101, 32, 98, 121, 116, 101, 115, 32, 116, 104, 97, 110, 32, 116, 104, 101, 32, 119, 105, 110, 100, 111, 119, 32, 104, 97, 115]
  | 17 => [99, 117, 108, 118, 101, 114, 116, 58, 32, 97, 32, 99, 114, 101, 100, 105, 116, 32, 97, 98, 111, 118, 101, 32, 116, 104, 101, 32, 119, 105, 110, 100, 111, 119]
  | 18 => [99, 117, 108, 118, 101, 114, 116, 58, 32, 97, 32, 115, 116, 114, 101, 97, 109, 32, 111, 102, 32, 116, 104, 101, 32, 111, 116, 104, 101, 114, 32, 101, 110, 100, 39, 115, 32, 112, 97, 114, 105, 116, 121]
  | 19 => [99, 117, 108, 118, 101, 114, 116, 58, 32, 97, 32, 115, 116, 114, 101, 97, 109, 39, 115, 32, 110, 117, 109, 98, 101, 114, 32, 102, 111, 114, 32, 116, 104, 101, 32, 115, 101, 99, 111, 110, 100, 32, 116, 105, 109, 101]
  | 20 => [99, 117, 108, 118, 101, 114, 116, 58, 32, 97, 32, 115, 116, 114, 101, 97, 109, 32, 116, 104, 97, 116, 32, 119, 97, 115, 32, 110, 101, 118, 101, 114, 32, 111, 112, 101, 110, 101, 100]
  | 21 => [99, 117, 108, 118, 101, 114, 116, 58, 32, 109, 111, 114, 101, 32, 116, 104, 97, 110, 32, 116, 104, 101, 32, 111, 116, 104, 101, 114, 32, 101, 110, 100, 32, 109, 97, 121, 32, 97, 115, 107]
  | 22 => [99, 117, 108, 118, 101, 114, 116, 58, 32, 97, 110, 32, 97, 110, 115, 119, 101, 114, 32, 116, 111, 32, 110, 111, 32, 112, 105, 110, 103]
  | 23 => [99, 117, 108, 118, 101, 114, 116, 58, 32, 97, 110, 32, 101, 118, 101, 110, 116, 32, 116, 104, 97, 116, 32, 116, 104, 101, 32, 115, 116, 97, 116, 101, 32, 100, 111, 101, 115, 32, 110, 111, 116, 32, 104, 97, 118, 101]
  | 24 => [99, 117, 108, 118, 101, 114, 116, 58, 32, 99, 108, 111, 115, 101, 100, 32, 97, 116, 32, 116, 104, 105, 115, 32, 101, 110, 100]
  | 25 => [99, 117, 108, 118, 101, 114, 116, 58, 32, 101, 110, 100, 32, 111, 102, 32, 115, 116, 114, 101, 97, 109]
  | 26 => [99, 117, 108, 118, 101, 114, 116, 58, 32, 114, 101, 115, 101, 116, 32, 98, 121, 32, 116, 104, 101, 32, 111, 116, 104, 101, 114, 32, 101, 110, 100]
  | 27 => [99, 117, 108, 118, 101, 114, 116, 58, 32, 116, 104, 101, 32, 99, 111, 110, 110, 101, 99, 116, 105, 111, 110, 32, 119, 97, 115, 32, 99, 117, 116]
  | 28 => [99, 117, 108, 118, 101, 114, 116, 58, 32, 116, 104, 101, 32, 111, 116, 104, 101, 114, 32, 101, 110, 100, 32, 98, 114, 111, 107, 101, 32, 116, 104, 101, 32, 112, 114, 111, 116, 111, 99, 111, 108]
  | 29 => [99, 117, 108, 118, 101, 114, 116, 58, 32, 116, 104, 101, 32, 111, 116, 104, 101, 114, 32, 101, 110, 100, 32, 103, 97, 118, 101, 32, 117, 112]
  | 30 => [99, 117, 108, 118, 101, 114, 116, 58, 32, 116, 104, 101, 32, 111, 116, 104, 101, 114, 32, 101, 110, 100, 32, 103, 111, 101, 115, 32, 97, 119, 97, 121]
  | 31 => [99, 117, 108, 118, 101, 114, 116, 58, 32, 97, 115, 32, 109, 97, 110, 121, 32, 97, 115, 32, 116, 104, 101, 114, 101, 32, 109, 97, 121, 32, 98, 101]
  | 32 => [99, 117, 108, 118, 101, 114, 116, 58, 32, 110, 111, 32, 110, 117, 109, 98, 101, 114, 32, 105, 115, 32, 108, 101, 102, 116]
  | 33 => [99, 117, 108, 118, 101, 114, 116, 58, 32, 110, 111, 32, 115, 117, 99, 104, 32, 115, 116, 114, 101, 97, 109]
  | 34 => [99, 117, 108, 118, 101, 114, 116, 58, 32, 103, 111, 111, 100, 32, 102, 111, 114, 32, 110, 111, 116, 104, 105, 110, 103, 32, 97, 110, 121, 32, 109, 111, 114, 101]
  | 35 => [99, 117, 108, 118, 101, 114, 116, 58, 32, 110, 111, 32, 115, 117, 99, 104, 32, 99, 111, 110, 110, 101, 99, 116, 105, 111, 110, 44, 32, 111, 114, 32, 110, 111, 110, 101, 32, 116, 104, 97, 116, 32, 108, 105, 118, 101, 115]
  | 36 => [99, 117, 108, 118, 101, 114, 116, 58, 32, 97, 108, 108, 32, 99, 111, 110, 110, 101, 99, 116, 105, 111, 110, 115, 32, 116, 104, 97, 116, 32, 108, 105, 118, 101, 32, 97, 114, 101, 32, 103, 111, 105, 110, 103, 32, 97, 119, 97, 121]
  | 37 => [99, 117, 108, 118, 101, 114, 116, 58, 32, 116, 104, 101, 32, 99, 111, 110, 110, 101, 99, 116, 105, 111, 110, 32, 108, 105, 118, 101, 115]
  | 38 => [99, 117, 108, 118, 101, 114, 116, 58, 32, 110, 111, 32, 115, 117, 99, 104, 32, 104, 97, 110, 100, 108, 101]
  | 39 => [99, 117, 108, 118, 101, 114, 116, 58, 32, 110, 111, 116, 32, 119, 104, 97, 116, 32, 119, 97, 115, 32, 119, 114, 105, 116, 116, 101, 110]
  | 40 => [99, 117, 108, 118, 101, 114, 116, 58, 32, 110, 111, 32, 119, 111, 114, 100, 32, 111, 102, 32, 97, 32, 99, 111, 109, 109, 97, 110, 100]
  | 41 => [99, 117, 108, 118, 101, 114, 116, 58, 32, 97, 110, 32, 97, 114, 103, 117, 109, 101, 110, 116, 32, 116, 104, 97, 116, 32, 109, 97, 121, 32, 110, 111, 116, 32, 98, 101]
  | 42 => [99, 117, 108, 118, 101, 114, 116, 58, 32, 116, 111, 111, 32, 109, 97, 110, 121, 32, 111, 114, 32, 116, 111, 111, 32, 102, 101, 119, 32, 97, 114, 103, 117, 109, 101, 110, 116, 115]
  | _ => []
def sgb : Nat → Nat
  | 1 => 5
  | 2 => 3
  | 3 => 6
  | 4 => 7
  | 5 => 8
  | 6 => 9
  | 7 => 10
  | 8 => 11
  | 9 => 12
  | 10 => 0
  | 11 => 13
  | 12 => 14
  | 13 => 15
  | 14 => 16
  | 15 => 17
  | 16 => 18
  | 17 => 19
  | 18 => 20
  | 19 => 21
  | 20 => 22
  | 21 => 23
  | 22 => 24
  | 23 => 25
  | 24 => 26
  | 25 => 27
  | 26 => 28
  | 27 => 29
  | 28 => 30
  | 29 => 31
  | 30 => 1
  | 31 => 2
  | 32 => 32
  | 33 => 33
  | 34 => 34
  | 35 => 35
  | 36 => 36
  | 37 => 37
  | 38 => 38
  | 39 => 39
  | 40 => 40
  | 41 => 41
  | 42 => 42
  | _ => 0

/-- Which of api's errors the row lists. -/
def inG (_n : Nat) : Bool := true
/-- api's errors lie there: number n (1 to 42) is the pointer sa n. -/
structure Good (w : World) (sa : Nat → Addr) : Prop where
  at_ : ∀ n, 1 ≤ n → n ≤ 42 → (_ : inG n = true := by first | rfl | assumption) → SentAt w 285 (sgb n) (sa n)
  ne : ∀ n m, 1 ≤ n → n ≤ 42 → 1 ≤ m → m ≤ 42 → n ≠ m → (_ : inG n = true := by first | rfl | assumption) → (_ : inG m = true := by first | rfl | assumption) → sa n ≠ sa m
theorem Good.below {w w' : World} {sa : Nat → Addr} (h : Good w sa) (hb : Below w.heap.size w w') : Good w' sa :=
  ⟨fun n h1 h2 h3 => (h.at_ n h1 h2 h3).below (h.at_ n h1 h2 h3).glt (h.at_ n h1 h2 h3).alt hb, fun n m a b c d e f g => h.ne n m a b c d e f g⟩

/-- An error value that Code tells as c (0: none; 1 to 42: api's; 1000 and more: a violation, at stream s). -/
def EV (sa : Nat → Addr) (w : World) (c : Nat) (s : Int) (v : Value) : Prop :=
  (c = 0 ∧ v = .nilIface) ∨ (1 ≤ c ∧ c ≤ 42 ∧ v = sv (sa c)) ∨
  (1000 < c ∧ c ≤ 1042 ∧ c ≠ 1028 ∧ ∃ b o, v = vv b o ∧ w.cell? ⟨b, o, none⟩ = some (.int .u32 s) ∧ w.cell? ⟨b, o + 1, none⟩ = some (sv (sa (c - 1000))))

def isB (c n : Nat) : Bool := c == n || c == 1000 + n || (decide (1000 < c) && n == 28)

set_option maxHeartbeats 2000000 in
theorem sentinel_any (sa : Nat → Addr) (n : Int) (w : World) (hG : Good w sa) (h1 : 1 ≤ n) (h2 : n ≤ 42) :
    Calls Tryz.prog 21 #[.int .i64 n] w fun e w' => e = .returned (sv (sa n.toNat)) ∧ w' = w := by
  have g1 : w.cell? ⟨5, 0, none⟩ = some (sv (sa 1)) := (hG.at_ 1 (by omega) (by omega)).glob
  have g2 : w.cell? ⟨3, 0, none⟩ = some (sv (sa 2)) := (hG.at_ 2 (by omega) (by omega)).glob
  have g3 : w.cell? ⟨6, 0, none⟩ = some (sv (sa 3)) := (hG.at_ 3 (by omega) (by omega)).glob
  have g4 : w.cell? ⟨7, 0, none⟩ = some (sv (sa 4)) := (hG.at_ 4 (by omega) (by omega)).glob
  have g5 : w.cell? ⟨8, 0, none⟩ = some (sv (sa 5)) := (hG.at_ 5 (by omega) (by omega)).glob
  have g6 : w.cell? ⟨9, 0, none⟩ = some (sv (sa 6)) := (hG.at_ 6 (by omega) (by omega)).glob
  have g7 : w.cell? ⟨10, 0, none⟩ = some (sv (sa 7)) := (hG.at_ 7 (by omega) (by omega)).glob
  have g8 : w.cell? ⟨11, 0, none⟩ = some (sv (sa 8)) := (hG.at_ 8 (by omega) (by omega)).glob
  have g9 : w.cell? ⟨12, 0, none⟩ = some (sv (sa 9)) := (hG.at_ 9 (by omega) (by omega)).glob
  have g10 : w.cell? ⟨0, 0, none⟩ = some (sv (sa 10)) := (hG.at_ 10 (by omega) (by omega)).glob
  have g11 : w.cell? ⟨13, 0, none⟩ = some (sv (sa 11)) := (hG.at_ 11 (by omega) (by omega)).glob
  have g12 : w.cell? ⟨14, 0, none⟩ = some (sv (sa 12)) := (hG.at_ 12 (by omega) (by omega)).glob
  have g13 : w.cell? ⟨15, 0, none⟩ = some (sv (sa 13)) := (hG.at_ 13 (by omega) (by omega)).glob
  have g14 : w.cell? ⟨16, 0, none⟩ = some (sv (sa 14)) := (hG.at_ 14 (by omega) (by omega)).glob
  have g15 : w.cell? ⟨17, 0, none⟩ = some (sv (sa 15)) := (hG.at_ 15 (by omega) (by omega)).glob
  have g16 : w.cell? ⟨18, 0, none⟩ = some (sv (sa 16)) := (hG.at_ 16 (by omega) (by omega)).glob
  have g17 : w.cell? ⟨19, 0, none⟩ = some (sv (sa 17)) := (hG.at_ 17 (by omega) (by omega)).glob
  have g18 : w.cell? ⟨20, 0, none⟩ = some (sv (sa 18)) := (hG.at_ 18 (by omega) (by omega)).glob
  have g19 : w.cell? ⟨21, 0, none⟩ = some (sv (sa 19)) := (hG.at_ 19 (by omega) (by omega)).glob
  have g20 : w.cell? ⟨22, 0, none⟩ = some (sv (sa 20)) := (hG.at_ 20 (by omega) (by omega)).glob
  have g21 : w.cell? ⟨23, 0, none⟩ = some (sv (sa 21)) := (hG.at_ 21 (by omega) (by omega)).glob
  have g22 : w.cell? ⟨24, 0, none⟩ = some (sv (sa 22)) := (hG.at_ 22 (by omega) (by omega)).glob
  have g23 : w.cell? ⟨25, 0, none⟩ = some (sv (sa 23)) := (hG.at_ 23 (by omega) (by omega)).glob
  have g24 : w.cell? ⟨26, 0, none⟩ = some (sv (sa 24)) := (hG.at_ 24 (by omega) (by omega)).glob
  have g25 : w.cell? ⟨27, 0, none⟩ = some (sv (sa 25)) := (hG.at_ 25 (by omega) (by omega)).glob
  have g26 : w.cell? ⟨28, 0, none⟩ = some (sv (sa 26)) := (hG.at_ 26 (by omega) (by omega)).glob
  have g27 : w.cell? ⟨29, 0, none⟩ = some (sv (sa 27)) := (hG.at_ 27 (by omega) (by omega)).glob
  have g28 : w.cell? ⟨30, 0, none⟩ = some (sv (sa 28)) := (hG.at_ 28 (by omega) (by omega)).glob
  have g29 : w.cell? ⟨31, 0, none⟩ = some (sv (sa 29)) := (hG.at_ 29 (by omega) (by omega)).glob
  have g30 : w.cell? ⟨1, 0, none⟩ = some (sv (sa 30)) := (hG.at_ 30 (by omega) (by omega)).glob
  have g31 : w.cell? ⟨2, 0, none⟩ = some (sv (sa 31)) := (hG.at_ 31 (by omega) (by omega)).glob
  have g32 : w.cell? ⟨32, 0, none⟩ = some (sv (sa 32)) := (hG.at_ 32 (by omega) (by omega)).glob
  have g33 : w.cell? ⟨33, 0, none⟩ = some (sv (sa 33)) := (hG.at_ 33 (by omega) (by omega)).glob
  have g34 : w.cell? ⟨34, 0, none⟩ = some (sv (sa 34)) := (hG.at_ 34 (by omega) (by omega)).glob
  have g35 : w.cell? ⟨35, 0, none⟩ = some (sv (sa 35)) := (hG.at_ 35 (by omega) (by omega)).glob
  have g36 : w.cell? ⟨36, 0, none⟩ = some (sv (sa 36)) := (hG.at_ 36 (by omega) (by omega)).glob
  have g37 : w.cell? ⟨37, 0, none⟩ = some (sv (sa 37)) := (hG.at_ 37 (by omega) (by omega)).glob
  have g38 : w.cell? ⟨38, 0, none⟩ = some (sv (sa 38)) := (hG.at_ 38 (by omega) (by omega)).glob
  have g39 : w.cell? ⟨39, 0, none⟩ = some (sv (sa 39)) := (hG.at_ 39 (by omega) (by omega)).glob
  have g40 : w.cell? ⟨40, 0, none⟩ = some (sv (sa 40)) := (hG.at_ 40 (by omega) (by omega)).glob
  have g41 : w.cell? ⟨41, 0, none⟩ = some (sv (sa 41)) := (hG.at_ 41 (by omega) (by omega)).glob
  have g42 : w.cell? ⟨42, 0, none⟩ = some (sv (sa 42)) := (hG.at_ 42 (by omega) (by omega)).glob
  clear hG
  go_enter Tryz.func21, Tryz.ntmps21
  go_wp2
  all_goals (go_ret; refine ⟨?_, rfl⟩; rename_i hk; rw [show n = _ from by simpa using hk]; rfl)

theorem is_any {sa : Nat → Addr} {w : World} {c : Nat} {s : Int} {v : Value} (hG : Good w sa) (hE : EV sa w c s v) (n : Nat) (h1 : 1 ≤ n) (h2 : n ≤ 42) (hc : 1 ≤ c → c ≤ 42 → inG c = true := by intros; first | rfl | assumption | omega) (hd : 1000 < c → inG (c - 1000) = true := by intros; first | rfl | assumption | omega) (hn : inG n = true := by first | rfl | assumption) (h28 : 1000 < c → inG 28 = true := by intros; first | rfl | assumption | omega) :
    Calls Tryz.prog 20 #[v, sv (sa n)] w fun e w' => e = .returned (.bool (isB c n)) ∧ w' = w := by
  obtain ⟨cn, tn, rn⟩ := (hG.at_ n h1 h2 hn).row
  rcases hE with ⟨rfl, rfl⟩ | ⟨c1, c2, rfl⟩ | ⟨c1, c2, c3, b, o, rfl, hs, hw⟩
  · have e : isB 0 n = false := by simp [isB]; omega
    rw [e]; exact is_nil _ _
  · obtain ⟨cc, tc, rc⟩ := (hG.at_ c c1 c2 (hc c1 c2)).row
    by_cases hcn : c = n
    · subst hcn
      have e : isB c c = true := by simp [isB]
      rw [e]; exact is_same _ _
    · have e : isB c n = false := by simp [isB]; omega
      rw [e]; exact is_other _ _ _ _ _ _ _ (hG.ne c n c1 c2 h1 h2 hcn (hc c1 c2) hn) rc rn
  · have h28' := h28 c1
    obtain ⟨cp, tp, rp⟩ := (hG.at_ 28 (by omega) (by omega) h28').row
    have gp : w.cell? ⟨30, 0, none⟩ = some (sv (sa 28)) := (hG.at_ 28 (by omega) (by omega) h28').glob
    obtain ⟨cc, tc, rc⟩ := (hG.at_ (c - 1000) (by omega) (by omega) (hd c1)).row
    by_cases hn28 : n = 28
    · subst hn28
      have e : isB c 28 = true := by simp [isB]; omega
      rw [e]; exact isv_protocol _ _ _ _ gp
    · have hne := hG.ne n 28 h1 h2 (by omega) (by omega) hn28 hn h28'
      by_cases hcn : c = 1000 + n
      · subst hcn
        have e : isB (1000 + n) n = true := by simp [isB]
        rw [Nat.add_sub_cancel_left] at hw
        rw [e]; exact isv_why _ _ _ _ _ _ _ _ _ gp hne rn rp hw
      · have e : isB c n = false := by simp [isB]; omega
        rw [e]; exact isv_other _ _ _ _ _ _ _ _ _ _ _ _ gp hne (hG.ne (c - 1000) n (by omega) (by omega) h1 h2 (by omega) (hd c1) hn) rn rp rc hw
end Go.Proofs.YtnpmafnhbbaokaaGreatDoor
