/-
  DERIVED. GIVEN WITH THE SEED: THE CARDS: each row of YtbjekebkgidhaaaGreatDoorRows.lean that lists a variable, with what it lists TIED to the program's text (the seventh form; the later family's looks); each row that meets fmt, with fmt's text TOLD by the authors' own Lean function (tested against real Go, not proved from fmt's source: count such statements apart). THE CARD IS WHAT COUNTS. Prove the row's statement (the work); the ties are given (YtbjekebkgidhaaaGreatDoorTie.lean); close each card by the builder's one call (the guide's Derived/Test/ToyasCard.lean, 'card_holds'). Laid BY PROGRAM, IN A SANDBOX (cutbox-door.mjs). By AI agents, Wed Nov 11 2026. No macro, syntax, notation, axiom, sorry.
-/
import Derived.Test.YtbjekebkgidhaaaGreatDoorRows
import GoSem.ClaimSeven
namespace Go.Proofs.YtbjekebkgidhaaaGreatDoor
namespace Rows

/-- THE TIED CARD OF 'bellowslaw12.PrintBack'. -/
def printBackCard : Claim7 := { stood := { row := printBackRow, standIns := [], harness := (true, "3ee92b0241d4e6cc4ec6d7aa1c3f58a9ba40e9d2fdce97da6f0c63ea24f241e0"), looks := true }, kinds := [], alts := [], laidByText := true, laidKinds := [.data, .data, .data, .data, .pinned], laidTests := true, laidLooks := .later }
def PrintBackCardSaid : Prop := Claim7.holds Tryz.pinned (.plain (OpenSpec.ofChange printBackSpec)) printBackCard

/-- THE TIED CARD OF 'bellowslaw12.PrintAgain'. -/
def printAgainCard : Claim7 := { stood := { row := printAgainRow, standIns := [], harness := (true, "3ee92b0241d4e6cc4ec6d7aa1c3f58a9ba40e9d2fdce97da6f0c63ea24f241e0"), looks := true }, kinds := [], alts := [], laidByText := true, laidKinds := [.data, .data, .data, .data, .pinned], laidTests := true, laidLooks := .later }
def PrintAgainCardSaid : Prop := Claim7.holds Tryz.pinned (.plain (OpenSpec.ofChange printAgainSpec)) printAgainCard

/-- THE SECOND FORM's CARD OF 'bellowslaw12.PrintBack'. -/
def printBackUptoCard : Claim7 := { stood := { row := printBackUptoRow, standIns := [], harness := (true, "3ee92b0241d4e6cc4ec6d7aa1c3f58a9ba40e9d2fdce97da6f0c63ea24f241e0"), looks := true }, kinds := [], alts := [], laidByText := true, laidKinds := [.data, .data, .data, .data, .pinned], laidTests := true, laidLooks := .later }
def PrintBackUptoCardSaid : Prop := Claim7.holds Tryz.pinned (.plain (OpenSpec.upto printBackSpec)) printBackUptoCard

/-- THE SECOND FORM's CARD OF 'bellowslaw12.PrintAgain'. -/
def printAgainUptoCard : Claim7 := { stood := { row := printAgainUptoRow, standIns := [], harness := (true, "3ee92b0241d4e6cc4ec6d7aa1c3f58a9ba40e9d2fdce97da6f0c63ea24f241e0"), looks := true }, kinds := [], alts := [], laidByText := true, laidKinds := [.data, .data, .data, .data, .pinned], laidTests := true, laidLooks := .later }
def PrintAgainUptoCardSaid : Prop := Claim7.holds Tryz.pinned (.plain (OpenSpec.upto printAgainSpec)) printAgainUptoCard
end Rows
end Go.Proofs.YtbjekebkgidhaaaGreatDoor
