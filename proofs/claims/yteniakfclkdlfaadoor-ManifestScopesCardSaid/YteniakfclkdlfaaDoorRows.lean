/-
  NARROWER THAN 'FOR EVERY INPUT', by the rows' own cells (each row's printed sentence says how): ManifestClean: laid · ManifestNotes: laid · ManifestScopes: laid · ManifestMany: laid · ManifestDefaults: laid.
  DERIVED. THE GIVEN ROWS OF THIS SEAT. 5 by the template 'for every input the law returns true; each argument reads behind the call as it read before'; 0 by the template 'total and deterministic' (their statements: YteniakfclkdlfaaDoorTotals.lean).
  GIVEN WITH THE SEED: the statements are not yours to turn. If you find one false, say at which input.
  Laid BY PROGRAM, IN A SANDBOX (cutbox-rows.mjs): the forced cells as the released guide's own fill.sh prints them over the translation 820deb6bfe1dca53… (all of the seat's roots in one cut). By AI agents, Wed Nov 11 2026. No macro, syntax, notation, axiom, sorry.
-/
import Derived.Test.YteniakfclkdlfaaDoorChecked
import GoSem.PinnedTables
import GoSem.Claim
import GoSem.ClaimJoined
import GoSem.ClaimMapViews
import Derived.JoinedTies
import Derived.KernelRfl
namespace Go.Proofs.YteniakfclkdlfaaDoor
/- THE CELL 'sum', in the pinned program and in every row, IS THE sha256 OF THE DUMP (.gsa) THAT YteniakfclkdlfaaDoorProg.lean LOADS. Nothing in Lean hashes anything: it is a label: what it is worth is what the hold of that sum in a sandbox is worth. -/
noncomputable def Tryd.pinned : Pinned := { name := "yteniakfclkdlfaadoor", sum := "820deb6bfe1dca53888d89819160eaab178fffc1fbb6c697a276e9c17b3d1a15", checked := Tryd.checked }
namespace Rows
def none {H : Type} : Left H := { results := [], args := [] }

/- WHAT THE LISTED PACKAGE-LEVEL VARIABLES READ AS WHEN THE CALL BEGINS. Each datum BY PROGRAM (the guide's laid-datum.mjs) off the statement by which the dump's own 'gosem.cut.vars' lays the variable. In a bare row this is a premise. The card (YteniakfclkdlfaaDoorCards.lean) ties it to the program's text. -/
def laid_unicode_utf8_acceptRanges {H : Type} : DataW H := .agg [.agg [.lit (.int .u8 128), .lit (.int .u8 191)], .agg [.lit (.int .u8 160), .lit (.int .u8 191)], .agg [.lit (.int .u8 128), .lit (.int .u8 159)], .agg [.lit (.int .u8 144), .lit (.int .u8 191)], .agg [.lit (.int .u8 128), .lit (.int .u8 143)], .agg [.lit (.int .u8 0), .lit (.int .u8 0)], .agg [.lit (.int .u8 0), .lit (.int .u8 0)], .agg [.lit (.int .u8 0), .lit (.int .u8 0)], .agg [.lit (.int .u8 0), .lit (.int .u8 0)], .agg [.lit (.int .u8 0), .lit (.int .u8 0)], .agg [.lit (.int .u8 0), .lit (.int .u8 0)], .agg [.lit (.int .u8 0), .lit (.int .u8 0)], .agg [.lit (.int .u8 0), .lit (.int .u8 0)], .agg [.lit (.int .u8 0), .lit (.int .u8 0)], .agg [.lit (.int .u8 0), .lit (.int .u8 0)], .agg [.lit (.int .u8 0), .lit (.int .u8 0)]]
/-- One of Go's own tables, pinned by name: the form's constant. -/
def laid_unicode_utf8_first : DataW Unit := Go.Pinned.utf8First

/-- 'bellowslaw11.ManifestClean': WHATEVER THE INPUT: true; the input reads as it did. -/
def manifestCleanSpec : ChangeSpec := { name := "manifestClean", fn := fun _ => fun
  | [d] => { results := [.lit (.bool true)], args := [d] }
  | _ => none }
def manifestCleanRow : OpenClaim := { program := "yteniakfclkdlfaadoor", sum := "820deb6bfe1dca53888d89819160eaab178fffc1fbb6c697a276e9c17b3d1a15", func := "bellows/bellowslaw11.ManifestClean", spec := "manifestClean", inPlace := ["internal/bytealg.CountString", "internal/bytealg.IndexByteString", "internal/bytealg.IndexString", "internal/abi.NoEscape", "internal/bytealg.MakeNoZero"], unfollowed := true, recurses := true, named := ["unicode/utf8.first", "unicode/utf8.acceptRanges", "internal/bytealg.MaxLen"], apart := false, laid := [("unicode/utf8.acceptRanges", laid_unicode_utf8_acceptRanges), ("unicode/utf8.first", laid_unicode_utf8_first)] }
def ManifestCleanSaid : Prop := manifestCleanRow.holds Tryd.pinned (OpenSpec.ofChange manifestCleanSpec)

/-- ITS FALSE NEIGHBOUR: 'it returns false'. Refute it at one input. -/
def manifestCleanWrong : ChangeSpec := { name := "manifestClean", fn := fun _ => fun
  | [d] => { results := [.lit (.bool false)], args := [d] }
  | _ => none }
def ManifestCleanWrongFalsely : Prop := manifestCleanRow.holds Tryd.pinned (OpenSpec.ofChange manifestCleanWrong)

/-- 'bellowslaw11.ManifestNotes': WHATEVER THE INPUT: true; the input reads as it did. -/
def manifestNotesSpec : ChangeSpec := { name := "manifestNotes", fn := fun _ => fun
  | [d1, d2] => { results := [.lit (.bool true)], args := [d1, d2] }
  | _ => none }
def manifestNotesRow : OpenClaim := { program := "yteniakfclkdlfaadoor", sum := "820deb6bfe1dca53888d89819160eaab178fffc1fbb6c697a276e9c17b3d1a15", func := "bellows/bellowslaw11.ManifestNotes", spec := "manifestNotes", inPlace := ["internal/bytealg.CountString", "internal/bytealg.IndexByteString", "internal/bytealg.IndexString", "internal/abi.NoEscape", "internal/bytealg.MakeNoZero"], unfollowed := true, recurses := true, named := ["unicode/utf8.first", "unicode/utf8.acceptRanges", "internal/bytealg.MaxLen"], apart := false, laid := [("unicode/utf8.acceptRanges", laid_unicode_utf8_acceptRanges), ("unicode/utf8.first", laid_unicode_utf8_first)] }
def ManifestNotesSaid : Prop := manifestNotesRow.holds Tryd.pinned (OpenSpec.ofChange manifestNotesSpec)

/-- ITS FALSE NEIGHBOUR: 'it returns false'. Refute it at one input. -/
def manifestNotesWrong : ChangeSpec := { name := "manifestNotes", fn := fun _ => fun
  | [d1, d2] => { results := [.lit (.bool false)], args := [d1, d2] }
  | _ => none }
def ManifestNotesWrongFalsely : Prop := manifestNotesRow.holds Tryd.pinned (OpenSpec.ofChange manifestNotesWrong)

/-- 'bellowslaw11.ManifestScopes': WHATEVER THE INPUT: true; the input reads as it did. -/
def manifestScopesSpec : ChangeSpec := { name := "manifestScopes", fn := fun _ => fun
  | [d1, d2, d3] => { results := [.lit (.bool true)], args := [d1, d2, d3] }
  | _ => none }
def manifestScopesRow : OpenClaim := { program := "yteniakfclkdlfaadoor", sum := "820deb6bfe1dca53888d89819160eaab178fffc1fbb6c697a276e9c17b3d1a15", func := "bellows/bellowslaw11.ManifestScopes", spec := "manifestScopes", inPlace := ["internal/bytealg.CountString", "internal/bytealg.IndexByteString", "internal/bytealg.IndexString", "internal/abi.NoEscape", "internal/bytealg.MakeNoZero"], unfollowed := true, recurses := true, named := ["unicode/utf8.first", "unicode/utf8.acceptRanges", "internal/bytealg.MaxLen"], apart := false, laid := [("unicode/utf8.acceptRanges", laid_unicode_utf8_acceptRanges), ("unicode/utf8.first", laid_unicode_utf8_first)] }
def ManifestScopesSaid : Prop := manifestScopesRow.holds Tryd.pinned (OpenSpec.ofChange manifestScopesSpec)

/-- ITS FALSE NEIGHBOUR: 'it returns false'. Refute it at one input. -/
def manifestScopesWrong : ChangeSpec := { name := "manifestScopes", fn := fun _ => fun
  | [d1, d2, d3] => { results := [.lit (.bool false)], args := [d1, d2, d3] }
  | _ => none }
def ManifestScopesWrongFalsely : Prop := manifestScopesRow.holds Tryd.pinned (OpenSpec.ofChange manifestScopesWrong)

/-- 'bellowslaw11.ManifestMany': WHATEVER THE INPUT: true; the input reads as it did. -/
def manifestManySpec : ChangeSpec := { name := "manifestMany", fn := fun _ => fun
  | [d] => { results := [.lit (.bool true)], args := [d] }
  | _ => none }
def manifestManyRow : OpenClaim := { program := "yteniakfclkdlfaadoor", sum := "820deb6bfe1dca53888d89819160eaab178fffc1fbb6c697a276e9c17b3d1a15", func := "bellows/bellowslaw11.ManifestMany", spec := "manifestMany", inPlace := ["internal/bytealg.CountString", "internal/bytealg.IndexByteString", "internal/bytealg.IndexString", "internal/abi.NoEscape", "internal/bytealg.MakeNoZero"], unfollowed := true, recurses := true, named := ["unicode/utf8.first", "unicode/utf8.acceptRanges", "internal/bytealg.MaxLen"], apart := false, laid := [("unicode/utf8.acceptRanges", laid_unicode_utf8_acceptRanges), ("unicode/utf8.first", laid_unicode_utf8_first)] }
def ManifestManySaid : Prop := manifestManyRow.holds Tryd.pinned (OpenSpec.ofChange manifestManySpec)

/-- ITS FALSE NEIGHBOUR: 'it returns false'. Refute it at one input. -/
def manifestManyWrong : ChangeSpec := { name := "manifestMany", fn := fun _ => fun
  | [d] => { results := [.lit (.bool false)], args := [d] }
  | _ => none }
def ManifestManyWrongFalsely : Prop := manifestManyRow.holds Tryd.pinned (OpenSpec.ofChange manifestManyWrong)

/-- 'bellowslaw11.ManifestDefaults': WHATEVER THE INPUT: true; the input reads as it did. -/
def manifestDefaultsSpec : ChangeSpec := { name := "manifestDefaults", fn := fun _ => fun
  | [d] => { results := [.lit (.bool true)], args := [d] }
  | _ => none }
def manifestDefaultsRow : OpenClaim := { program := "yteniakfclkdlfaadoor", sum := "820deb6bfe1dca53888d89819160eaab178fffc1fbb6c697a276e9c17b3d1a15", func := "bellows/bellowslaw11.ManifestDefaults", spec := "manifestDefaults", inPlace := ["internal/bytealg.CountString", "internal/bytealg.IndexByteString", "internal/bytealg.IndexString", "internal/abi.NoEscape", "internal/bytealg.MakeNoZero"], unfollowed := true, recurses := true, named := ["unicode/utf8.first", "unicode/utf8.acceptRanges", "internal/bytealg.MaxLen"], apart := false, laid := [("unicode/utf8.acceptRanges", laid_unicode_utf8_acceptRanges), ("unicode/utf8.first", laid_unicode_utf8_first)] }
def ManifestDefaultsSaid : Prop := manifestDefaultsRow.holds Tryd.pinned (OpenSpec.ofChange manifestDefaultsSpec)

/-- ITS FALSE NEIGHBOUR: 'it returns false'. Refute it at one input. -/
def manifestDefaultsWrong : ChangeSpec := { name := "manifestDefaults", fn := fun _ => fun
  | [d] => { results := [.lit (.bool false)], args := [d] }
  | _ => none }
def ManifestDefaultsWrongFalsely : Prop := manifestDefaultsRow.holds Tryd.pinned (OpenSpec.ofChange manifestDefaultsWrong)

/- THE SECOND FORM. 'bulk': how many values and letters a reading holds, each counted each time it is reached (what is shared counts as often as it is met; a slice's spare places count too). A statement '..UptoSaid' is the law's where the arguments, and the package variables that the reading takes, are together of bulk at most 1048576: NARROWER than '..Said'. Prove '..Said' where nothing that the law and all that it calls make is longer than what came in: it says more and counts as full. Else prove '..UptoSaid'. A law counts once. -/
mutual
def uptoBulk {H : Type} : DataW H → Nat
  | .lit (.string bytes) => bytes.length + 1
  | .lit _ => 1
  | .nil => 1
  | .ptr d => uptoBulk d + 1
  | .slice elems spare => uptoBulkAll elems + uptoBulkAll spare + 1
  | .agg parts => uptoBulkAll parts + 1
  | .iface _ d => uptoBulk d + 1
  | .map entries => uptoBulkEntries entries + 1
  | .held _ => 1
def uptoBulkAll {H : Type} : List (DataW H) → Nat
  | [] => 0
  | d :: r => uptoBulk d + uptoBulkAll r
def uptoBulkEntries {H : Type} : List (Lit × DataW H) → Nat
  | [] => 0
  | x :: r => uptoBulkEntry x + uptoBulkEntries r
def uptoBulkEntry {H : Type} : Lit × DataW H → Nat
  | (.string bytes, d) => bytes.length + uptoBulk d + 1
  | (_, d) => uptoBulk d + 1
 end
def uptoSmall : (H : Type) → List (DataW H) → Bool := fun _ ds => decide (uptoBulkAll ds ≤ 1048576)
def OpenSpec.upto (s : _root_.Go.ChangeSpec) : _root_.Go.OpenSpec := { _root_.Go.OpenSpec.ofChange s with cond := some uptoSmall }

/-- 'bellowslaw11.ManifestClean', WHERE WHAT IT READS IS OF BULK AT MOST 1048576: true; the input reads as it did. -/
def manifestCleanUptoRow : OpenClaim := { program := "yteniakfclkdlfaadoor", sum := "820deb6bfe1dca53888d89819160eaab178fffc1fbb6c697a276e9c17b3d1a15", func := "bellows/bellowslaw11.ManifestClean", spec := "manifestClean", inPlace := ["internal/bytealg.CountString", "internal/bytealg.IndexByteString", "internal/bytealg.IndexString", "internal/abi.NoEscape", "internal/bytealg.MakeNoZero"], unfollowed := true, recurses := true, named := ["unicode/utf8.first", "unicode/utf8.acceptRanges", "internal/bytealg.MaxLen"], apart := false, laid := [("unicode/utf8.acceptRanges", laid_unicode_utf8_acceptRanges), ("unicode/utf8.first", laid_unicode_utf8_first)], narrowed := true }
def ManifestCleanUptoSaid : Prop := manifestCleanUptoRow.holds Tryd.pinned (OpenSpec.upto manifestCleanSpec)

/-- 'bellowslaw11.ManifestNotes', WHERE WHAT IT READS IS OF BULK AT MOST 1048576: true; the input reads as it did. -/
def manifestNotesUptoRow : OpenClaim := { program := "yteniakfclkdlfaadoor", sum := "820deb6bfe1dca53888d89819160eaab178fffc1fbb6c697a276e9c17b3d1a15", func := "bellows/bellowslaw11.ManifestNotes", spec := "manifestNotes", inPlace := ["internal/bytealg.CountString", "internal/bytealg.IndexByteString", "internal/bytealg.IndexString", "internal/abi.NoEscape", "internal/bytealg.MakeNoZero"], unfollowed := true, recurses := true, named := ["unicode/utf8.first", "unicode/utf8.acceptRanges", "internal/bytealg.MaxLen"], apart := false, laid := [("unicode/utf8.acceptRanges", laid_unicode_utf8_acceptRanges), ("unicode/utf8.first", laid_unicode_utf8_first)], narrowed := true }
def ManifestNotesUptoSaid : Prop := manifestNotesUptoRow.holds Tryd.pinned (OpenSpec.upto manifestNotesSpec)

/-- 'bellowslaw11.ManifestScopes', WHERE WHAT IT READS IS OF BULK AT MOST 1048576: true; the input reads as it did. -/
def manifestScopesUptoRow : OpenClaim := { program := "yteniakfclkdlfaadoor", sum := "820deb6bfe1dca53888d89819160eaab178fffc1fbb6c697a276e9c17b3d1a15", func := "bellows/bellowslaw11.ManifestScopes", spec := "manifestScopes", inPlace := ["internal/bytealg.CountString", "internal/bytealg.IndexByteString", "internal/bytealg.IndexString", "internal/abi.NoEscape", "internal/bytealg.MakeNoZero"], unfollowed := true, recurses := true, named := ["unicode/utf8.first", "unicode/utf8.acceptRanges", "internal/bytealg.MaxLen"], apart := false, laid := [("unicode/utf8.acceptRanges", laid_unicode_utf8_acceptRanges), ("unicode/utf8.first", laid_unicode_utf8_first)], narrowed := true }
def ManifestScopesUptoSaid : Prop := manifestScopesUptoRow.holds Tryd.pinned (OpenSpec.upto manifestScopesSpec)

/-- 'bellowslaw11.ManifestMany', WHERE WHAT IT READS IS OF BULK AT MOST 1048576: true; the input reads as it did. -/
def manifestManyUptoRow : OpenClaim := { program := "yteniakfclkdlfaadoor", sum := "820deb6bfe1dca53888d89819160eaab178fffc1fbb6c697a276e9c17b3d1a15", func := "bellows/bellowslaw11.ManifestMany", spec := "manifestMany", inPlace := ["internal/bytealg.CountString", "internal/bytealg.IndexByteString", "internal/bytealg.IndexString", "internal/abi.NoEscape", "internal/bytealg.MakeNoZero"], unfollowed := true, recurses := true, named := ["unicode/utf8.first", "unicode/utf8.acceptRanges", "internal/bytealg.MaxLen"], apart := false, laid := [("unicode/utf8.acceptRanges", laid_unicode_utf8_acceptRanges), ("unicode/utf8.first", laid_unicode_utf8_first)], narrowed := true }
def ManifestManyUptoSaid : Prop := manifestManyUptoRow.holds Tryd.pinned (OpenSpec.upto manifestManySpec)

/-- 'bellowslaw11.ManifestDefaults', WHERE WHAT IT READS IS OF BULK AT MOST 1048576: true; the input reads as it did. -/
def manifestDefaultsUptoRow : OpenClaim := { program := "yteniakfclkdlfaadoor", sum := "820deb6bfe1dca53888d89819160eaab178fffc1fbb6c697a276e9c17b3d1a15", func := "bellows/bellowslaw11.ManifestDefaults", spec := "manifestDefaults", inPlace := ["internal/bytealg.CountString", "internal/bytealg.IndexByteString", "internal/bytealg.IndexString", "internal/abi.NoEscape", "internal/bytealg.MakeNoZero"], unfollowed := true, recurses := true, named := ["unicode/utf8.first", "unicode/utf8.acceptRanges", "internal/bytealg.MaxLen"], apart := false, laid := [("unicode/utf8.acceptRanges", laid_unicode_utf8_acceptRanges), ("unicode/utf8.first", laid_unicode_utf8_first)], narrowed := true }
def ManifestDefaultsUptoSaid : Prop := manifestDefaultsUptoRow.holds Tryd.pinned (OpenSpec.upto manifestDefaultsSpec)

end Rows
end Go.Proofs.YteniakfclkdlfaaDoor
