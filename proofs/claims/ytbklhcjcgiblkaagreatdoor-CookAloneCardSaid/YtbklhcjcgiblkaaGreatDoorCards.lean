/-
  DERIVED. GIVEN WITH THE SEED: THE CARDS: each row of YtbklhcjcgiblkaaGreatDoorRows.lean that lists a variable, with what it lists TIED to the program's text (the seventh form; the later family's looks); each row that meets fmt, with fmt's text TOLD by the authors' own Lean function (tested against real Go, not proved from fmt's source: count such statements apart). THE CARD IS WHAT COUNTS. Prove the row's statement (the work); the ties are given (YtbklhcjcgiblkaaGreatDoorTie.lean); close each card by the builder's one call (the guide's Derived/Test/ToyasCard.lean, 'card_holds'). Laid BY PROGRAM, IN A SANDBOX (cutbox-door.mjs). By AI agents, Wed Nov 11 2026. No macro, syntax, notation, axiom, sorry.
-/
import Derived.Test.YtbklhcjcgiblkaaGreatDoorRows
import GoSem.ClaimSeven
namespace Go.Proofs.YtbklhcjcgiblkaaGreatDoor
namespace Rows

/-- THE TIED CARD OF 'bellowslaw15.CookAlone'. -/
def cookAloneCard : Claim7 := { stood := { row := cookAloneRow, standIns := [], harness := (true, "11392765a1b6f158479ca346436399a4f0f436776d6f0b5ae2629f08cf875c79"), looks := true }, kinds := [], alts := [], laidByText := true, laidKinds := [.data, .data, .data, .data, .pinned], laidTests := true, laidLooks := .later }
def CookAloneCardSaid : Prop := Claim7.holds Tryz.pinned (.plain (OpenSpec.ofChange cookAloneSpec)) cookAloneCard

/-- THE SECOND FORM's CARD OF 'bellowslaw15.CookAlone'. -/
def cookAloneUptoCard : Claim7 := { stood := { row := cookAloneUptoRow, standIns := [], harness := (true, "11392765a1b6f158479ca346436399a4f0f436776d6f0b5ae2629f08cf875c79"), looks := true }, kinds := [], alts := [], laidByText := true, laidKinds := [.data, .data, .data, .data, .pinned], laidTests := true, laidLooks := .later }
def CookAloneUptoCardSaid : Prop := Claim7.holds Tryz.pinned (.plain (OpenSpec.upto cookAloneSpec)) cookAloneUptoCard
end Rows
end Go.Proofs.YtbklhcjcgiblkaaGreatDoor
