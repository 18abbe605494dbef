/-
  DERIVED. GIVEN WITH THE SEED: THE CARDS: each row of YtdnjfjcedcdlnaaDoorRows.lean that lists a variable, with what it lists TIED to the program's text (the seventh form; the later family's looks); each row that meets fmt, with fmt's text TOLD by the authors' own Lean function (tested against real Go, not proved from fmt's source: count such statements apart). THE CARD IS WHAT COUNTS. Prove the row's statement (the work); the ties are given (YtdnjfjcedcdlnaaDoorTie.lean); close each card by the builder's one call (the guide's Derived/Test/ToyasCard.lean, 'card_holds'). Laid BY PROGRAM, IN A SANDBOX (cutbox-door.mjs). By AI agents, Wed Nov 11 2026. No macro, syntax, notation, axiom, sorry.
-/
import Derived.Test.YtdnjfjcedcdlnaaDoorRows
import GoSem.ClaimSeven
namespace Go.Proofs.YtdnjfjcedcdlnaaDoor
namespace Rows

/-- THE TIED CARD OF 'bellowslaw03.PathDots'. -/
def pathDotsCard : Claim7 := { stood := { row := pathDotsRow, standIns := [], harness := (true, "b399346b372c50df057cbf2a0471615c91db8ad2996347c5a2db0c4d0f99b7f8"), looks := false }, kinds := [], alts := [], laidByText := true, laidKinds := [.data, .pinned], laidTests := true, laidLooks := .later }
def PathDotsCardSaid : Prop := Claim7.holds Tryd.pinned (.plain (OpenSpec.ofChange pathDotsSpec)) pathDotsCard

/-- THE TIED CARD OF 'bellowslaw03.PathUp'. -/
def pathUpCard : Claim7 := { stood := { row := pathUpRow, standIns := [], harness := (true, "b399346b372c50df057cbf2a0471615c91db8ad2996347c5a2db0c4d0f99b7f8"), looks := false }, kinds := [], alts := [], laidByText := true, laidKinds := [.data, .pinned], laidTests := true, laidLooks := .later }
def PathUpCardSaid : Prop := Claim7.holds Tryd.pinned (.plain (OpenSpec.ofChange pathUpSpec)) pathUpCard

/-- THE TIED CARD OF 'bellowslaw03.PathCleans'. -/
def pathCleansCard : Claim7 := { stood := { row := pathCleansRow, standIns := [], harness := (true, "b399346b372c50df057cbf2a0471615c91db8ad2996347c5a2db0c4d0f99b7f8"), looks := false }, kinds := [], alts := [], laidByText := true, laidKinds := [.data, .pinned], laidTests := true, laidLooks := .later }
def PathCleansCardSaid : Prop := Claim7.holds Tryd.pinned (.plain (OpenSpec.ofChange pathCleansSpec)) pathCleansCard

/-- THE TIED CARD OF 'bellowslaw03.PathParts'. -/
def pathPartsCard : Claim7 := { stood := { row := pathPartsRow, standIns := [], harness := (true, "b399346b372c50df057cbf2a0471615c91db8ad2996347c5a2db0c4d0f99b7f8"), looks := false }, kinds := [], alts := [], laidByText := true, laidKinds := [.data, .pinned], laidTests := true, laidLooks := .later }
def PathPartsCardSaid : Prop := Claim7.holds Tryd.pinned (.plain (OpenSpec.ofChange pathPartsSpec)) pathPartsCard

/-- THE TIED CARD OF 'bellowslaw03.PathAgain'. -/
def pathAgainCard : Claim7 := { stood := { row := pathAgainRow, standIns := [], harness := (true, "b399346b372c50df057cbf2a0471615c91db8ad2996347c5a2db0c4d0f99b7f8"), looks := false }, kinds := [], alts := [], laidByText := true, laidKinds := [.data, .pinned], laidTests := true, laidLooks := .later }
def PathAgainCardSaid : Prop := Claim7.holds Tryd.pinned (.plain (OpenSpec.ofChange pathAgainSpec)) pathAgainCard

/-- THE SECOND FORM's CARD OF 'bellowslaw03.PathDots'. -/
def pathDotsUptoCard : Claim7 := { stood := { row := pathDotsUptoRow, standIns := [], harness := (true, "b399346b372c50df057cbf2a0471615c91db8ad2996347c5a2db0c4d0f99b7f8"), looks := false }, kinds := [], alts := [], laidByText := true, laidKinds := [.data, .pinned], laidTests := true, laidLooks := .later }
def PathDotsUptoCardSaid : Prop := Claim7.holds Tryd.pinned (.plain (OpenSpec.upto pathDotsSpec)) pathDotsUptoCard

/-- THE SECOND FORM's CARD OF 'bellowslaw03.PathUp'. -/
def pathUpUptoCard : Claim7 := { stood := { row := pathUpUptoRow, standIns := [], harness := (true, "b399346b372c50df057cbf2a0471615c91db8ad2996347c5a2db0c4d0f99b7f8"), looks := false }, kinds := [], alts := [], laidByText := true, laidKinds := [.data, .pinned], laidTests := true, laidLooks := .later }
def PathUpUptoCardSaid : Prop := Claim7.holds Tryd.pinned (.plain (OpenSpec.upto pathUpSpec)) pathUpUptoCard

/-- THE SECOND FORM's CARD OF 'bellowslaw03.PathCleans'. -/
def pathCleansUptoCard : Claim7 := { stood := { row := pathCleansUptoRow, standIns := [], harness := (true, "b399346b372c50df057cbf2a0471615c91db8ad2996347c5a2db0c4d0f99b7f8"), looks := false }, kinds := [], alts := [], laidByText := true, laidKinds := [.data, .pinned], laidTests := true, laidLooks := .later }
def PathCleansUptoCardSaid : Prop := Claim7.holds Tryd.pinned (.plain (OpenSpec.upto pathCleansSpec)) pathCleansUptoCard

/-- THE SECOND FORM's CARD OF 'bellowslaw03.PathParts'. -/
def pathPartsUptoCard : Claim7 := { stood := { row := pathPartsUptoRow, standIns := [], harness := (true, "b399346b372c50df057cbf2a0471615c91db8ad2996347c5a2db0c4d0f99b7f8"), looks := false }, kinds := [], alts := [], laidByText := true, laidKinds := [.data, .pinned], laidTests := true, laidLooks := .later }
def PathPartsUptoCardSaid : Prop := Claim7.holds Tryd.pinned (.plain (OpenSpec.upto pathPartsSpec)) pathPartsUptoCard

/-- THE SECOND FORM's CARD OF 'bellowslaw03.PathAgain'. -/
def pathAgainUptoCard : Claim7 := { stood := { row := pathAgainUptoRow, standIns := [], harness := (true, "b399346b372c50df057cbf2a0471615c91db8ad2996347c5a2db0c4d0f99b7f8"), looks := false }, kinds := [], alts := [], laidByText := true, laidKinds := [.data, .pinned], laidTests := true, laidLooks := .later }
def PathAgainUptoCardSaid : Prop := Claim7.holds Tryd.pinned (.plain (OpenSpec.upto pathAgainSpec)) pathAgainUptoCard
end Rows
end Go.Proofs.YtdnjfjcedcdlnaaDoor
