/-
  DERIVED. GIVEN WITH THE SEED: THE CARDS: each row of YtbklhcjcgiblkaaDoorRows.lean that lists a variable, with what it lists TIED to the program's text (the seventh form; the later family's looks); each row that meets fmt, with fmt's text TOLD by the authors' own Lean function (tested against real Go, not proved from fmt's source: count such statements apart). THE CARD IS WHAT COUNTS. Prove the row's statement (the work); the ties are given (YtbklhcjcgiblkaaDoorTie.lean); close each card by the builder's one call (the guide's Derived/Test/ToyasCard.lean, 'card_holds'). Laid BY PROGRAM, IN A SANDBOX (cutbox-door.mjs). By AI agents, Wed Nov 11 2026. No macro, syntax, notation, axiom, sorry.
-/
import Derived.Test.YtbklhcjcgiblkaaDoorRows
import GoSem.ClaimSeven
namespace Go.Proofs.YtbklhcjcgiblkaaDoor
namespace Rows

/-- THE TIED CARD OF 'bellowslaw15.CookFinds'. -/
def cookFindsCard : Claim7 := { stood := { row := cookFindsRow, standIns := [], harness := (true, "38a24746a22e816a7c20228ce871cbdf67fddb3eb70abfcecec18083f03f6761"), looks := true }, kinds := [], alts := [], laidByText := true, laidKinds := [.data, .data, .data, .data, .pinned], laidTests := true, laidLooks := .later }
def CookFindsCardSaid : Prop := Claim7.holds Tryd.pinned (.plain (OpenSpec.ofChange cookFindsSpec)) cookFindsCard

/-- THE TIED CARD OF 'bellowslaw15.CookOuts'. -/
def cookOutsCard : Claim7 := { stood := { row := cookOutsRow, standIns := [], harness := (true, "38a24746a22e816a7c20228ce871cbdf67fddb3eb70abfcecec18083f03f6761"), looks := true }, kinds := [], alts := [], laidByText := true, laidKinds := [.data, .data, .data, .data, .pinned], laidTests := true, laidLooks := .later }
def CookOutsCardSaid : Prop := Claim7.holds Tryd.pinned (.plain (OpenSpec.ofChange cookOutsSpec)) cookOutsCard

/-- THE TIED CARD OF 'bellowslaw15.CookDeep'. -/
def cookDeepCard : Claim7 := { stood := { row := cookDeepRow, standIns := [], harness := (true, "38a24746a22e816a7c20228ce871cbdf67fddb3eb70abfcecec18083f03f6761"), looks := true }, kinds := [], alts := [], laidByText := true, laidKinds := [.data, .data, .data, .data, .pinned], laidTests := true, laidLooks := .later }
def CookDeepCardSaid : Prop := Claim7.holds Tryd.pinned (.plain (OpenSpec.ofChange cookDeepSpec)) cookDeepCard

/-- THE TIED CARD OF 'bellowslaw15.CookCats'. -/
def cookCatsCard : Claim7 := { stood := { row := cookCatsRow, standIns := [], harness := (true, "38a24746a22e816a7c20228ce871cbdf67fddb3eb70abfcecec18083f03f6761"), looks := true }, kinds := [], alts := [], laidByText := true, laidKinds := [.data, .data, .data, .data, .pinned], laidTests := true, laidLooks := .later }
def CookCatsCardSaid : Prop := Claim7.holds Tryd.pinned (.plain (OpenSpec.ofChange cookCatsSpec)) cookCatsCard

/-- THE SECOND FORM's CARD OF 'bellowslaw15.CookFinds'. -/
def cookFindsUptoCard : Claim7 := { stood := { row := cookFindsUptoRow, standIns := [], harness := (true, "38a24746a22e816a7c20228ce871cbdf67fddb3eb70abfcecec18083f03f6761"), looks := true }, kinds := [], alts := [], laidByText := true, laidKinds := [.data, .data, .data, .data, .pinned], laidTests := true, laidLooks := .later }
def CookFindsUptoCardSaid : Prop := Claim7.holds Tryd.pinned (.plain (OpenSpec.upto cookFindsSpec)) cookFindsUptoCard

/-- THE SECOND FORM's CARD OF 'bellowslaw15.CookOuts'. -/
def cookOutsUptoCard : Claim7 := { stood := { row := cookOutsUptoRow, standIns := [], harness := (true, "38a24746a22e816a7c20228ce871cbdf67fddb3eb70abfcecec18083f03f6761"), looks := true }, kinds := [], alts := [], laidByText := true, laidKinds := [.data, .data, .data, .data, .pinned], laidTests := true, laidLooks := .later }
def CookOutsUptoCardSaid : Prop := Claim7.holds Tryd.pinned (.plain (OpenSpec.upto cookOutsSpec)) cookOutsUptoCard

/-- THE SECOND FORM's CARD OF 'bellowslaw15.CookDeep'. -/
def cookDeepUptoCard : Claim7 := { stood := { row := cookDeepUptoRow, standIns := [], harness := (true, "38a24746a22e816a7c20228ce871cbdf67fddb3eb70abfcecec18083f03f6761"), looks := true }, kinds := [], alts := [], laidByText := true, laidKinds := [.data, .data, .data, .data, .pinned], laidTests := true, laidLooks := .later }
def CookDeepUptoCardSaid : Prop := Claim7.holds Tryd.pinned (.plain (OpenSpec.upto cookDeepSpec)) cookDeepUptoCard

/-- THE SECOND FORM's CARD OF 'bellowslaw15.CookCats'. -/
def cookCatsUptoCard : Claim7 := { stood := { row := cookCatsUptoRow, standIns := [], harness := (true, "38a24746a22e816a7c20228ce871cbdf67fddb3eb70abfcecec18083f03f6761"), looks := true }, kinds := [], alts := [], laidByText := true, laidKinds := [.data, .data, .data, .data, .pinned], laidTests := true, laidLooks := .later }
def CookCatsUptoCardSaid : Prop := Claim7.holds Tryd.pinned (.plain (OpenSpec.upto cookCatsSpec)) cookCatsUptoCard
end Rows
end Go.Proofs.YtbklhcjcgiblkaaDoor
