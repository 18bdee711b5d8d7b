/-
  DERIVED. GIVEN WITH THE SEED: THE CARDS: each row of YtnpmafnhbbaokaaGreatDoorRows.lean that lists a variable, with what it lists TIED to the program's text (the seventh form; the later family's looks); each row that meets fmt, with fmt's text TOLD by the authors' own Lean function (tested against real Go, not proved from fmt's source: count such statements apart). THE CARD IS WHAT COUNTS. Prove the row's statement (the work); the ties are given (YtnpmafnhbbaokaaGreatDoorTie.lean); close each card by the builder's one call (the guide's Derived/Test/ToyasCard.lean, 'card_holds'). Laid BY PROGRAM, IN A SANDBOX (cutbox-door.mjs). By AI agents, Wed Nov 11 2026. No macro, syntax, notation, axiom, sorry.
-/
import Derived.Test.YtnpmafnhbbaokaaGreatDoorRows
import GoSem.ClaimSeven
namespace Go.Proofs.YtnpmafnhbbaokaaGreatDoor
namespace Rows

/-- THE TIED CARD OF 'culvertlaw18.SessionChecks'. -/
def sessionChecksCard : Claim7 := { stood := { row := sessionChecksRow, standIns := [], harness := (true, "b6c8041827e50304d83489745419f7833f49004a669ac2c76c9cb3673fcf41e5"), looks := true }, kinds := [], alts := [], laidByText := true, laidKinds := [.handle, .sentinel, .sentinel, .sentinel, .sentinel, .sentinel, .sentinel, .sentinel, .sentinel, .sentinel, .sentinel, .sentinel, .sentinel, .sentinel, .sentinel, .sentinel, .sentinel, .sentinel, .sentinel, .sentinel, .sentinel, .sentinel, .sentinel, .sentinel, .sentinel, .sentinel, .sentinel, .sentinel, .sentinel, .sentinel, .sentinel, .sentinel, .sentinel, .sentinel, .sentinel, .sentinel, .sentinel, .sentinel, .sentinel, .sentinel, .sentinel, .sentinel, .sentinel, .data, .data, .data], laidTests := true, laidLooks := .later }
def SessionChecksCardSaid : Prop := Claim7.holds Tryz.pinned (.plain (OpenSpec.ofChange sessionChecksSpec)) sessionChecksCard

/-- THE SECOND FORM's CARD OF 'culvertlaw18.SessionChecks'. -/
def sessionChecksUptoCard : Claim7 := { stood := { row := sessionChecksUptoRow, standIns := [], harness := (true, "b6c8041827e50304d83489745419f7833f49004a669ac2c76c9cb3673fcf41e5"), looks := true }, kinds := [], alts := [], laidByText := true, laidKinds := [.handle, .sentinel, .sentinel, .sentinel, .sentinel, .sentinel, .sentinel, .sentinel, .sentinel, .sentinel, .sentinel, .sentinel, .sentinel, .sentinel, .sentinel, .sentinel, .sentinel, .sentinel, .sentinel, .sentinel, .sentinel, .sentinel, .sentinel, .sentinel, .sentinel, .sentinel, .sentinel, .sentinel, .sentinel, .sentinel, .sentinel, .sentinel, .sentinel, .sentinel, .sentinel, .sentinel, .sentinel, .sentinel, .sentinel, .sentinel, .sentinel, .sentinel, .sentinel, .data, .data, .data], laidTests := true, laidLooks := .later }
def SessionChecksUptoCardSaid : Prop := Claim7.holds Tryz.pinned (.plain (OpenSpec.upto sessionChecksSpec)) sessionChecksUptoCard
end Rows
end Go.Proofs.YtnpmafnhbbaokaaGreatDoor
