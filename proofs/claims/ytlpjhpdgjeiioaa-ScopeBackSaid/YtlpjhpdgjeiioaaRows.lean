/-
  No cell of these rows narrows 'for every input' (looked for: loops, veiled, ifaces, maps, wideKeys, modest, calm, conditions, laid).
  DERIVED. THE GIVEN ROWS OF THIS SEAT. 6 by the template 'for every input the law returns true; each argument reads behind the call as it read before'; 0 by the template 'total and deterministic' (their statements: YtlpjhpdgjeiioaaTotals.lean).
  GIVEN WITH THE SEED: the statements are not yours to turn. If you find one false, say at which input.
  Laid BY PROGRAM, IN A SANDBOX (cutbox-rows.mjs): the forced cells as the released guide's own fill.sh prints them over the translation 9faa6aaec2fceaf5… (all of the seat's roots in one cut). By AI agents, Wed Nov 11 2026. No macro, syntax, notation, axiom, sorry.
-/
import Derived.Test.YtlpjhpdgjeiioaaChecked
import GoSem.Claim
import GoSem.ClaimJoined
import GoSem.ClaimMapViews
import Derived.JoinedTies
import Derived.KernelRfl
namespace Go.Proofs.Ytlpjhpdgjeiioaa
/- THE CELL 'sum', in the pinned program and in every row, IS THE sha256 OF THE DUMP (.gsa) THAT YtlpjhpdgjeiioaaProg.lean LOADS. Nothing in Lean hashes anything: it is a label: what it is worth is what the hold of that sum in a sandbox is worth. -/
noncomputable def Try.pinned : Pinned := { name := "ytlpjhpdgjeiioaa", sum := "9faa6aaec2fceaf5d10d16828cca031d341f5190788a5c4343cfa09c7ff6fdfe", checked := Try.checked }
namespace Rows
def none {H : Type} : Left H := { results := [], args := [] }

/-- 'bellowslaw10.ScopeExpands': WHATEVER THE INPUT: true; the input reads as it did. -/
def scopeExpandsSpec : ChangeSpec := { name := "scopeExpands", fn := fun _ => fun
  | [d1, d2, d3] => { results := [.lit (.bool true)], args := [d1, d2, d3] }
  | _ => none }
def scopeExpandsRow : OpenClaim := { program := "ytlpjhpdgjeiioaa", sum := "9faa6aaec2fceaf5d10d16828cca031d341f5190788a5c4343cfa09c7ff6fdfe", func := "bellows/bellowslaw10.ScopeExpands", spec := "scopeExpands", inPlace := ["internal/bytealg.IndexByteString", "internal/bytealg.IndexString", "internal/abi.NoEscape"], unfollowed := true, recurses := true, named := ["internal/bytealg.MaxLen"], apart := false }
def ScopeExpandsSaid : Prop := scopeExpandsRow.holds Try.pinned (OpenSpec.ofChange scopeExpandsSpec)

/-- ITS FALSE NEIGHBOUR: 'it returns false'. Refute it at one input. -/
def scopeExpandsWrong : ChangeSpec := { name := "scopeExpands", fn := fun _ => fun
  | [d1, d2, d3] => { results := [.lit (.bool false)], args := [d1, d2, d3] }
  | _ => none }
def ScopeExpandsWrongFalsely : Prop := scopeExpandsRow.holds Try.pinned (OpenSpec.ofChange scopeExpandsWrong)

/-- 'bellowslaw10.ScopeParts': WHATEVER THE INPUT: true; the input reads as it did. -/
def scopePartsSpec : ChangeSpec := { name := "scopeParts", fn := fun _ => fun
  | [d1, d2, d3] => { results := [.lit (.bool true)], args := [d1, d2, d3] }
  | _ => none }
def scopePartsRow : OpenClaim := { program := "ytlpjhpdgjeiioaa", sum := "9faa6aaec2fceaf5d10d16828cca031d341f5190788a5c4343cfa09c7ff6fdfe", func := "bellows/bellowslaw10.ScopeParts", spec := "scopeParts", inPlace := ["internal/bytealg.IndexByteString", "internal/bytealg.IndexString", "internal/abi.NoEscape"], unfollowed := true, recurses := true, named := ["internal/bytealg.MaxLen"], apart := false }
def ScopePartsSaid : Prop := scopePartsRow.holds Try.pinned (OpenSpec.ofChange scopePartsSpec)

/-- ITS FALSE NEIGHBOUR: 'it returns false'. Refute it at one input. -/
def scopePartsWrong : ChangeSpec := { name := "scopeParts", fn := fun _ => fun
  | [d1, d2, d3] => { results := [.lit (.bool false)], args := [d1, d2, d3] }
  | _ => none }
def ScopePartsWrongFalsely : Prop := scopePartsRow.holds Try.pinned (OpenSpec.ofChange scopePartsWrong)

/-- 'bellowslaw10.ScopeHides': WHATEVER THE INPUT: true; the input reads as it did. -/
def scopeHidesSpec : ChangeSpec := { name := "scopeHides", fn := fun _ => fun
  | [d1, d2, d3] => { results := [.lit (.bool true)], args := [d1, d2, d3] }
  | _ => none }
def scopeHidesRow : OpenClaim := { program := "ytlpjhpdgjeiioaa", sum := "9faa6aaec2fceaf5d10d16828cca031d341f5190788a5c4343cfa09c7ff6fdfe", func := "bellows/bellowslaw10.ScopeHides", spec := "scopeHides", inPlace := ["internal/bytealg.IndexByteString", "internal/bytealg.IndexString", "internal/abi.NoEscape"], unfollowed := true, recurses := true, named := ["internal/bytealg.MaxLen"], apart := false }
def ScopeHidesSaid : Prop := scopeHidesRow.holds Try.pinned (OpenSpec.ofChange scopeHidesSpec)

/-- ITS FALSE NEIGHBOUR: 'it returns false'. Refute it at one input. -/
def scopeHidesWrong : ChangeSpec := { name := "scopeHides", fn := fun _ => fun
  | [d1, d2, d3] => { results := [.lit (.bool false)], args := [d1, d2, d3] }
  | _ => none }
def ScopeHidesWrongFalsely : Prop := scopeHidesRow.holds Try.pinned (OpenSpec.ofChange scopeHidesWrong)

/-- 'bellowslaw10.ScopeLong': WHATEVER THE INPUT: true; the input reads as it did. -/
def scopeLongSpec : ChangeSpec := { name := "scopeLong", fn := fun _ => fun
  | [d1, d2] => { results := [.lit (.bool true)], args := [d1, d2] }
  | _ => none }
def scopeLongRow : OpenClaim := { program := "ytlpjhpdgjeiioaa", sum := "9faa6aaec2fceaf5d10d16828cca031d341f5190788a5c4343cfa09c7ff6fdfe", func := "bellows/bellowslaw10.ScopeLong", spec := "scopeLong", inPlace := ["internal/bytealg.IndexByteString", "internal/bytealg.IndexString", "internal/abi.NoEscape"], unfollowed := true, recurses := true, named := ["internal/bytealg.MaxLen"], apart := false }
def ScopeLongSaid : Prop := scopeLongRow.holds Try.pinned (OpenSpec.ofChange scopeLongSpec)

/-- ITS FALSE NEIGHBOUR: 'it returns false'. Refute it at one input. -/
def scopeLongWrong : ChangeSpec := { name := "scopeLong", fn := fun _ => fun
  | [d1, d2] => { results := [.lit (.bool false)], args := [d1, d2] }
  | _ => none }
def ScopeLongWrongFalsely : Prop := scopeLongRow.holds Try.pinned (OpenSpec.ofChange scopeLongWrong)

/-- 'bellowslaw10.ScopeEscapes': WHATEVER THE INPUT: true; the input reads as it did. -/
def scopeEscapesSpec : ChangeSpec := { name := "scopeEscapes", fn := fun _ => fun
  | [d] => { results := [.lit (.bool true)], args := [d] }
  | _ => none }
def scopeEscapesRow : OpenClaim := { program := "ytlpjhpdgjeiioaa", sum := "9faa6aaec2fceaf5d10d16828cca031d341f5190788a5c4343cfa09c7ff6fdfe", func := "bellows/bellowslaw10.ScopeEscapes", spec := "scopeEscapes", inPlace := ["sync/atomic.LoadUint32", "(*internal/sync.Mutex).Lock", "internal/race.Disable", "sync/atomic.CompareAndSwapInt32", "internal/race.Enable", "internal/race.Acquire", "(*internal/sync.Mutex).lockSlow", "internal/sync.runtime_canSpin", "internal/sync.runtime_doSpin", "internal/sync.throw", "internal/sync.runtime_nanotime", "internal/sync.runtime_SemacquireMutex", "sync/atomic.AddInt32", "(*internal/sync.Mutex).Unlock", "internal/race.ReleaseMerge", "(*internal/sync.Mutex).unlockSlow", "internal/sync.fatal", "internal/sync.runtime_Semrelease", "sync/atomic.StoreUint32", "internal/bytealg.IndexByteString", "internal/bytealg.IndexString", "internal/abi.NoEscape"], unfollowed := true, recurses := true, named := ["internal/bytealg.MaxLen"], apart := false }
def ScopeEscapesSaid : Prop := scopeEscapesRow.holds Try.pinned (OpenSpec.ofChange scopeEscapesSpec)

/-- ITS FALSE NEIGHBOUR: 'it returns false'. Refute it at one input. -/
def scopeEscapesWrong : ChangeSpec := { name := "scopeEscapes", fn := fun _ => fun
  | [d] => { results := [.lit (.bool false)], args := [d] }
  | _ => none }
def ScopeEscapesWrongFalsely : Prop := scopeEscapesRow.holds Try.pinned (OpenSpec.ofChange scopeEscapesWrong)

/-- 'bellowslaw10.ScopeBack': WHATEVER THE INPUT: true; the input reads as it did. -/
def scopeBackSpec : ChangeSpec := { name := "scopeBack", fn := fun _ => fun
  | [d1, d2] => { results := [.lit (.bool true)], args := [d1, d2] }
  | _ => none }
def scopeBackRow : OpenClaim := { program := "ytlpjhpdgjeiioaa", sum := "9faa6aaec2fceaf5d10d16828cca031d341f5190788a5c4343cfa09c7ff6fdfe", func := "bellows/bellowslaw10.ScopeBack", spec := "scopeBack", inPlace := ["sync/atomic.LoadUint32", "(*internal/sync.Mutex).Lock", "internal/race.Disable", "sync/atomic.CompareAndSwapInt32", "internal/race.Enable", "internal/race.Acquire", "(*internal/sync.Mutex).lockSlow", "internal/sync.runtime_canSpin", "internal/sync.runtime_doSpin", "internal/sync.throw", "internal/sync.runtime_nanotime", "internal/sync.runtime_SemacquireMutex", "sync/atomic.AddInt32", "(*internal/sync.Mutex).Unlock", "internal/race.ReleaseMerge", "(*internal/sync.Mutex).unlockSlow", "internal/sync.fatal", "internal/sync.runtime_Semrelease", "sync/atomic.StoreUint32", "internal/bytealg.IndexByteString", "internal/bytealg.IndexString", "internal/abi.NoEscape"], unfollowed := true, recurses := true, named := ["internal/bytealg.MaxLen"], apart := false }
def ScopeBackSaid : Prop := scopeBackRow.holds Try.pinned (OpenSpec.ofChange scopeBackSpec)

/-- ITS FALSE NEIGHBOUR: 'it returns false'. Refute it at one input. -/
def scopeBackWrong : ChangeSpec := { name := "scopeBack", fn := fun _ => fun
  | [d1, d2] => { results := [.lit (.bool false)], args := [d1, d2] }
  | _ => none }
def ScopeBackWrongFalsely : Prop := scopeBackRow.holds Try.pinned (OpenSpec.ofChange scopeBackWrong)

/- THE SECOND FORM. 'bulk': how many values and letters a reading holds, each counted each time it is reached (what is shared counts as often as it is met; a slice's spare places count too). A statement '..UptoSaid' is the law's where the arguments, and the package variables that the reading takes, are together of bulk at most 1048576: NARROWER than '..Said'. Prove '..Said' where nothing that the law and all that it calls make is longer than what came in: it says more and counts as full. Else prove '..UptoSaid'. A law counts once. -/
mutual
def uptoBulk {H : Type} : DataW H → Nat
  | .lit (.string bytes) => bytes.length + 1
  | .lit _ => 1
  | .nil => 1
  | .ptr d => uptoBulk d + 1
  | .slice elems spare => uptoBulkAll elems + uptoBulkAll spare + 1
  | .agg parts => uptoBulkAll parts + 1
  | .iface _ d => uptoBulk d + 1
  | .map entries => uptoBulkEntries entries + 1
  | .held _ => 1
def uptoBulkAll {H : Type} : List (DataW H) → Nat
  | [] => 0
  | d :: r => uptoBulk d + uptoBulkAll r
def uptoBulkEntries {H : Type} : List (Lit × DataW H) → Nat
  | [] => 0
  | x :: r => uptoBulkEntry x + uptoBulkEntries r
def uptoBulkEntry {H : Type} : Lit × DataW H → Nat
  | (.string bytes, d) => bytes.length + uptoBulk d + 1
  | (_, d) => uptoBulk d + 1
 end
def uptoSmall : (H : Type) → List (DataW H) → Bool := fun _ ds => decide (uptoBulkAll ds ≤ 1048576)
def OpenSpec.upto (s : _root_.Go.ChangeSpec) : _root_.Go.OpenSpec := { _root_.Go.OpenSpec.ofChange s with cond := some uptoSmall }

/-- 'bellowslaw10.ScopeExpands', WHERE WHAT IT READS IS OF BULK AT MOST 1048576: true; the input reads as it did. -/
def scopeExpandsUptoRow : OpenClaim := { program := "ytlpjhpdgjeiioaa", sum := "9faa6aaec2fceaf5d10d16828cca031d341f5190788a5c4343cfa09c7ff6fdfe", func := "bellows/bellowslaw10.ScopeExpands", spec := "scopeExpands", inPlace := ["internal/bytealg.IndexByteString", "internal/bytealg.IndexString", "internal/abi.NoEscape"], unfollowed := true, recurses := true, named := ["internal/bytealg.MaxLen"], apart := false, narrowed := true }
def ScopeExpandsUptoSaid : Prop := scopeExpandsUptoRow.holds Try.pinned (OpenSpec.upto scopeExpandsSpec)

/-- 'bellowslaw10.ScopeParts', WHERE WHAT IT READS IS OF BULK AT MOST 1048576: true; the input reads as it did. -/
def scopePartsUptoRow : OpenClaim := { program := "ytlpjhpdgjeiioaa", sum := "9faa6aaec2fceaf5d10d16828cca031d341f5190788a5c4343cfa09c7ff6fdfe", func := "bellows/bellowslaw10.ScopeParts", spec := "scopeParts", inPlace := ["internal/bytealg.IndexByteString", "internal/bytealg.IndexString", "internal/abi.NoEscape"], unfollowed := true, recurses := true, named := ["internal/bytealg.MaxLen"], apart := false, narrowed := true }
def ScopePartsUptoSaid : Prop := scopePartsUptoRow.holds Try.pinned (OpenSpec.upto scopePartsSpec)

/-- 'bellowslaw10.ScopeHides', WHERE WHAT IT READS IS OF BULK AT MOST 1048576: true; the input reads as it did. -/
def scopeHidesUptoRow : OpenClaim := { program := "ytlpjhpdgjeiioaa", sum := "9faa6aaec2fceaf5d10d16828cca031d341f5190788a5c4343cfa09c7ff6fdfe", func := "bellows/bellowslaw10.ScopeHides", spec := "scopeHides", inPlace := ["internal/bytealg.IndexByteString", "internal/bytealg.IndexString", "internal/abi.NoEscape"], unfollowed := true, recurses := true, named := ["internal/bytealg.MaxLen"], apart := false, narrowed := true }
def ScopeHidesUptoSaid : Prop := scopeHidesUptoRow.holds Try.pinned (OpenSpec.upto scopeHidesSpec)

/-- 'bellowslaw10.ScopeLong', WHERE WHAT IT READS IS OF BULK AT MOST 1048576: true; the input reads as it did. -/
def scopeLongUptoRow : OpenClaim := { program := "ytlpjhpdgjeiioaa", sum := "9faa6aaec2fceaf5d10d16828cca031d341f5190788a5c4343cfa09c7ff6fdfe", func := "bellows/bellowslaw10.ScopeLong", spec := "scopeLong", inPlace := ["internal/bytealg.IndexByteString", "internal/bytealg.IndexString", "internal/abi.NoEscape"], unfollowed := true, recurses := true, named := ["internal/bytealg.MaxLen"], apart := false, narrowed := true }
def ScopeLongUptoSaid : Prop := scopeLongUptoRow.holds Try.pinned (OpenSpec.upto scopeLongSpec)

/-- 'bellowslaw10.ScopeEscapes', WHERE WHAT IT READS IS OF BULK AT MOST 1048576: true; the input reads as it did. -/
def scopeEscapesUptoRow : OpenClaim := { program := "ytlpjhpdgjeiioaa", sum := "9faa6aaec2fceaf5d10d16828cca031d341f5190788a5c4343cfa09c7ff6fdfe", func := "bellows/bellowslaw10.ScopeEscapes", spec := "scopeEscapes", inPlace := ["sync/atomic.LoadUint32", "(*internal/sync.Mutex).Lock", "internal/race.Disable", "sync/atomic.CompareAndSwapInt32", "internal/race.Enable", "internal/race.Acquire", "(*internal/sync.Mutex).lockSlow", "internal/sync.runtime_canSpin", "internal/sync.runtime_doSpin", "internal/sync.throw", "internal/sync.runtime_nanotime", "internal/sync.runtime_SemacquireMutex", "sync/atomic.AddInt32", "(*internal/sync.Mutex).Unlock", "internal/race.ReleaseMerge", "(*internal/sync.Mutex).unlockSlow", "internal/sync.fatal", "internal/sync.runtime_Semrelease", "sync/atomic.StoreUint32", "internal/bytealg.IndexByteString", "internal/bytealg.IndexString", "internal/abi.NoEscape"], unfollowed := true, recurses := true, named := ["internal/bytealg.MaxLen"], apart := false, narrowed := true }
def ScopeEscapesUptoSaid : Prop := scopeEscapesUptoRow.holds Try.pinned (OpenSpec.upto scopeEscapesSpec)

/-- 'bellowslaw10.ScopeBack', WHERE WHAT IT READS IS OF BULK AT MOST 1048576: true; the input reads as it did. -/
def scopeBackUptoRow : OpenClaim := { program := "ytlpjhpdgjeiioaa", sum := "9faa6aaec2fceaf5d10d16828cca031d341f5190788a5c4343cfa09c7ff6fdfe", func := "bellows/bellowslaw10.ScopeBack", spec := "scopeBack", inPlace := ["sync/atomic.LoadUint32", "(*internal/sync.Mutex).Lock", "internal/race.Disable", "sync/atomic.CompareAndSwapInt32", "internal/race.Enable", "internal/race.Acquire", "(*internal/sync.Mutex).lockSlow", "internal/sync.runtime_canSpin", "internal/sync.runtime_doSpin", "internal/sync.throw", "internal/sync.runtime_nanotime", "internal/sync.runtime_SemacquireMutex", "sync/atomic.AddInt32", "(*internal/sync.Mutex).Unlock", "internal/race.ReleaseMerge", "(*internal/sync.Mutex).unlockSlow", "internal/sync.fatal", "internal/sync.runtime_Semrelease", "sync/atomic.StoreUint32", "internal/bytealg.IndexByteString", "internal/bytealg.IndexString", "internal/abi.NoEscape"], unfollowed := true, recurses := true, named := ["internal/bytealg.MaxLen"], apart := false, narrowed := true }
def ScopeBackUptoSaid : Prop := scopeBackUptoRow.holds Try.pinned (OpenSpec.upto scopeBackSpec)

end Rows
end Go.Proofs.Ytlpjhpdgjeiioaa
