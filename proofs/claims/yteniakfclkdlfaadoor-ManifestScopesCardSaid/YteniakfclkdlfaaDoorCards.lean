/-
  DERIVED. GIVEN WITH THE SEED: THE CARDS: each row of YteniakfclkdlfaaDoorRows.lean that lists a variable, with what it lists TIED to the program's text (the seventh form; the later family's looks); each row that meets fmt, with fmt's text TOLD by the authors' own Lean function (tested against real Go, not proved from fmt's source: count such statements apart). THE CARD IS WHAT COUNTS. Prove the row's statement (the work); the ties are given (YteniakfclkdlfaaDoorTie.lean); close each card by the builder's one call (the guide's Derived/Test/ToyasCard.lean, 'card_holds'). Laid BY PROGRAM, IN A SANDBOX (cutbox-door.mjs). By AI agents, Wed Nov 11 2026. No macro, syntax, notation, axiom, sorry.
-/
import Derived.Test.YteniakfclkdlfaaDoorRows
import GoSem.ClaimSeven
namespace Go.Proofs.YteniakfclkdlfaaDoor
namespace Rows

/-- THE TIED CARD OF 'bellowslaw11.ManifestClean'. -/
def manifestCleanCard : Claim7 := { stood := { row := manifestCleanRow, standIns := [], harness := (true, "2df774acf1b32dcf2a8dfe8e8f755d3fc346e8be90f800e8c215e5e40843adcc"), looks := true }, kinds := [], alts := [], laidByText := true, laidKinds := [.data, .pinned], laidTests := true, laidLooks := .later }
def ManifestCleanCardSaid : Prop := Claim7.holds Tryd.pinned (.plain (OpenSpec.ofChange manifestCleanSpec)) manifestCleanCard

/-- THE TIED CARD OF 'bellowslaw11.ManifestNotes'. -/
def manifestNotesCard : Claim7 := { stood := { row := manifestNotesRow, standIns := [], harness := (true, "2df774acf1b32dcf2a8dfe8e8f755d3fc346e8be90f800e8c215e5e40843adcc"), looks := true }, kinds := [], alts := [], laidByText := true, laidKinds := [.data, .pinned], laidTests := true, laidLooks := .later }
def ManifestNotesCardSaid : Prop := Claim7.holds Tryd.pinned (.plain (OpenSpec.ofChange manifestNotesSpec)) manifestNotesCard

/-- THE TIED CARD OF 'bellowslaw11.ManifestScopes'. -/
def manifestScopesCard : Claim7 := { stood := { row := manifestScopesRow, standIns := [], harness := (true, "2df774acf1b32dcf2a8dfe8e8f755d3fc346e8be90f800e8c215e5e40843adcc"), looks := true }, kinds := [], alts := [], laidByText := true, laidKinds := [.data, .pinned], laidTests := true, laidLooks := .later }
def ManifestScopesCardSaid : Prop := Claim7.holds Tryd.pinned (.plain (OpenSpec.ofChange manifestScopesSpec)) manifestScopesCard

/-- THE TIED CARD OF 'bellowslaw11.ManifestMany'. -/
def manifestManyCard : Claim7 := { stood := { row := manifestManyRow, standIns := [], harness := (true, "2df774acf1b32dcf2a8dfe8e8f755d3fc346e8be90f800e8c215e5e40843adcc"), looks := true }, kinds := [], alts := [], laidByText := true, laidKinds := [.data, .pinned], laidTests := true, laidLooks := .later }
def ManifestManyCardSaid : Prop := Claim7.holds Tryd.pinned (.plain (OpenSpec.ofChange manifestManySpec)) manifestManyCard

/-- THE TIED CARD OF 'bellowslaw11.ManifestDefaults'. -/
def manifestDefaultsCard : Claim7 := { stood := { row := manifestDefaultsRow, standIns := [], harness := (true, "2df774acf1b32dcf2a8dfe8e8f755d3fc346e8be90f800e8c215e5e40843adcc"), looks := true }, kinds := [], alts := [], laidByText := true, laidKinds := [.data, .pinned], laidTests := true, laidLooks := .later }
def ManifestDefaultsCardSaid : Prop := Claim7.holds Tryd.pinned (.plain (OpenSpec.ofChange manifestDefaultsSpec)) manifestDefaultsCard

/-- THE SECOND FORM's CARD OF 'bellowslaw11.ManifestClean'. -/
def manifestCleanUptoCard : Claim7 := { stood := { row := manifestCleanUptoRow, standIns := [], harness := (true, "2df774acf1b32dcf2a8dfe8e8f755d3fc346e8be90f800e8c215e5e40843adcc"), looks := true }, kinds := [], alts := [], laidByText := true, laidKinds := [.data, .pinned], laidTests := true, laidLooks := .later }
def ManifestCleanUptoCardSaid : Prop := Claim7.holds Tryd.pinned (.plain (OpenSpec.upto manifestCleanSpec)) manifestCleanUptoCard

/-- THE SECOND FORM's CARD OF 'bellowslaw11.ManifestNotes'. -/
def manifestNotesUptoCard : Claim7 := { stood := { row := manifestNotesUptoRow, standIns := [], harness := (true, "2df774acf1b32dcf2a8dfe8e8f755d3fc346e8be90f800e8c215e5e40843adcc"), looks := true }, kinds := [], alts := [], laidByText := true, laidKinds := [.data, .pinned], laidTests := true, laidLooks := .later }
def ManifestNotesUptoCardSaid : Prop := Claim7.holds Tryd.pinned (.plain (OpenSpec.upto manifestNotesSpec)) manifestNotesUptoCard

/-- THE SECOND FORM's CARD OF 'bellowslaw11.ManifestScopes'. -/
def manifestScopesUptoCard : Claim7 := { stood := { row := manifestScopesUptoRow, standIns := [], harness := (true, "2df774acf1b32dcf2a8dfe8e8f755d3fc346e8be90f800e8c215e5e40843adcc"), looks := true }, kinds := [], alts := [], laidByText := true, laidKinds := [.data, .pinned], laidTests := true, laidLooks := .later }
def ManifestScopesUptoCardSaid : Prop := Claim7.holds Tryd.pinned (.plain (OpenSpec.upto manifestScopesSpec)) manifestScopesUptoCard

/-- THE SECOND FORM's CARD OF 'bellowslaw11.ManifestMany'. -/
def manifestManyUptoCard : Claim7 := { stood := { row := manifestManyUptoRow, standIns := [], harness := (true, "2df774acf1b32dcf2a8dfe8e8f755d3fc346e8be90f800e8c215e5e40843adcc"), looks := true }, kinds := [], alts := [], laidByText := true, laidKinds := [.data, .pinned], laidTests := true, laidLooks := .later }
def ManifestManyUptoCardSaid : Prop := Claim7.holds Tryd.pinned (.plain (OpenSpec.upto manifestManySpec)) manifestManyUptoCard

/-- THE SECOND FORM's CARD OF 'bellowslaw11.ManifestDefaults'. -/
def manifestDefaultsUptoCard : Claim7 := { stood := { row := manifestDefaultsUptoRow, standIns := [], harness := (true, "2df774acf1b32dcf2a8dfe8e8f755d3fc346e8be90f800e8c215e5e40843adcc"), looks := true }, kinds := [], alts := [], laidByText := true, laidKinds := [.data, .pinned], laidTests := true, laidLooks := .later }
def ManifestDefaultsUptoCardSaid : Prop := Claim7.holds Tryd.pinned (.plain (OpenSpec.upto manifestDefaultsSpec)) manifestDefaultsUptoCard
end Rows
end Go.Proofs.YteniakfclkdlfaaDoor
