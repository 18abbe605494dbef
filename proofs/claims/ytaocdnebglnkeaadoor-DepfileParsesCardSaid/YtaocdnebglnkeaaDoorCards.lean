/-
  DERIVED. GIVEN WITH THE SEED: THE CARDS: each row of YtaocdnebglnkeaaDoorRows.lean that lists a variable, with what it lists TIED to the program's text (the seventh form; the later family's looks); each row that meets fmt, with fmt's text TOLD by the authors' own Lean function (tested against real Go, not proved from fmt's source: count such statements apart). THE CARD IS WHAT COUNTS. Prove the row's statement (the work); the ties are given (YtaocdnebglnkeaaDoorTie.lean); close each card by the builder's one call (the guide's Derived/Test/ToyasCard.lean, 'card_holds'). Laid BY PROGRAM, IN A SANDBOX (cutbox-door.mjs). By AI agents, Wed Nov 11 2026. No macro, syntax, notation, axiom, sorry.
-/
import Derived.Test.YtaocdnebglnkeaaDoorRows
import GoSem.ClaimSeven
namespace Go.Proofs.YtaocdnebglnkeaaDoor
namespace Rows

/-- THE TIED CARD OF 'bellowslaw14.DepfileParses'. -/
def depfileParsesCard : Claim7 := { stood := { row := depfileParsesRow, standIns := [], harness := (true, "b4e4dd13ae2207ab82806c000ef40164c25b172c2173726c8cb4e30961006e1d"), looks := false }, kinds := [], alts := [], laidByText := true, laidKinds := [.data, .pinned], laidTests := true, laidLooks := .later }
def DepfileParsesCardSaid : Prop := Claim7.holds Tryd.pinned (.plain (OpenSpec.ofChange depfileParsesSpec)) depfileParsesCard

/-- THE TIED CARD OF 'bellowslaw14.DepfileTwo'. -/
def depfileTwoCard : Claim7 := { stood := { row := depfileTwoRow, standIns := [], harness := (true, "b4e4dd13ae2207ab82806c000ef40164c25b172c2173726c8cb4e30961006e1d"), looks := false }, kinds := [], alts := [], laidByText := true, laidKinds := [.data, .pinned], laidTests := true, laidLooks := .later }
def DepfileTwoCardSaid : Prop := Claim7.holds Tryd.pinned (.plain (OpenSpec.ofChange depfileTwoSpec)) depfileTwoCard

/-- THE TIED CARD OF 'bellowslaw14.DepfilePrints'. -/
def depfilePrintsCard : Claim7 := { stood := { row := depfilePrintsRow, standIns := [], harness := (true, "b4e4dd13ae2207ab82806c000ef40164c25b172c2173726c8cb4e30961006e1d"), looks := false }, kinds := [], alts := [], laidByText := true, laidKinds := [.data, .pinned], laidTests := true, laidLooks := .later }
def DepfilePrintsCardSaid : Prop := Claim7.holds Tryd.pinned (.plain (OpenSpec.ofChange depfilePrintsSpec)) depfilePrintsCard

/-- THE SECOND FORM's CARD OF 'bellowslaw14.DepfileParses'. -/
def depfileParsesUptoCard : Claim7 := { stood := { row := depfileParsesUptoRow, standIns := [], harness := (true, "b4e4dd13ae2207ab82806c000ef40164c25b172c2173726c8cb4e30961006e1d"), looks := false }, kinds := [], alts := [], laidByText := true, laidKinds := [.data, .pinned], laidTests := true, laidLooks := .later }
def DepfileParsesUptoCardSaid : Prop := Claim7.holds Tryd.pinned (.plain (OpenSpec.upto depfileParsesSpec)) depfileParsesUptoCard

/-- THE SECOND FORM's CARD OF 'bellowslaw14.DepfileTwo'. -/
def depfileTwoUptoCard : Claim7 := { stood := { row := depfileTwoUptoRow, standIns := [], harness := (true, "b4e4dd13ae2207ab82806c000ef40164c25b172c2173726c8cb4e30961006e1d"), looks := false }, kinds := [], alts := [], laidByText := true, laidKinds := [.data, .pinned], laidTests := true, laidLooks := .later }
def DepfileTwoUptoCardSaid : Prop := Claim7.holds Tryd.pinned (.plain (OpenSpec.upto depfileTwoSpec)) depfileTwoUptoCard

/-- THE SECOND FORM's CARD OF 'bellowslaw14.DepfilePrints'. -/
def depfilePrintsUptoCard : Claim7 := { stood := { row := depfilePrintsUptoRow, standIns := [], harness := (true, "b4e4dd13ae2207ab82806c000ef40164c25b172c2173726c8cb4e30961006e1d"), looks := false }, kinds := [], alts := [], laidByText := true, laidKinds := [.data, .pinned], laidTests := true, laidLooks := .later }
def DepfilePrintsUptoCardSaid : Prop := Claim7.holds Tryd.pinned (.plain (OpenSpec.upto depfilePrintsSpec)) depfilePrintsUptoCard
end Rows
end Go.Proofs.YtaocdnebglnkeaaDoor
