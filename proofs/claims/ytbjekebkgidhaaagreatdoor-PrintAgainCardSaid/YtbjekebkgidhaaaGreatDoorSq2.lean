/- Laid together by wip/tools/shake.py from texts of this claim: Shaped, Shelf, MaxCell, Tab, U, Idx, ScopeA, ScopeB, ScopeRune, ScopeC, Build, ScopeD, ScopeE, LinesA, LinesB, LinesC, Lex, Range, Split, PathPlain, PathPred, Clean, MfSpec, MfGood, MfMany, EscPlain, PathTh, MfBack, MfBackB. -/
import Derived.Test.YtbjekebkgidhaaaGreatDoorSq1
import Derived.HandedShaped
import Derived.LaidLaws
import Derived.Shelf.Strings.Builder1
import Derived.Shelf.Strings.Builder2
import Derived.Shelf.Strings.OnBuilder
import Derived.Shelf.Strings.Trim
import Derived.Shelf.Small.Utf8
import Derived.Shelf.Small.Strs
import Derived.Shelf.Strings.BuilderF
import Derived.Shelf.Strconv.Itoa0
import Derived.Shelf.Strconv.Itoa1
import Derived.Shelf.LaysM
import Derived.Shelf.Strconv.Itoa2
import Derived.Shelf.Strconv.Itoa3
import Derived.Shelf.Strings.Search1
import Derived.Shelf.Strings.Search2
import Derived.Shelf.Strings.Search3
import Derived.Shelf.Strings.Cut
import Derived.Shelf.Strings.Count
import Derived.Shelf.Strings.Shaped
import Derived.Shelf.GgClosure.StringsIndexFunc
import Derived.Ground.GgwProg
import Derived.Shelf.GgClosure.StringsIndexFuncTop
import Derived.Shelf.Strings.Prefix
import Derived.Shelf.Strings.Split
import Derived.Shelf.Strings.SplitShaped
import Derived.Shelf.Strings.Runes
import Derived.Shelf.Strings.AsciiSet
import Derived.Shelf.Unicode.DecodeSlow
import Derived.Shelf.Unicode.DecodeAny
import Derived.Shelf.Unicode.DecodeLast
import Derived.Shelf.Strings.FuncGrows
import Derived.Shelf.Slices.Turned
import Derived.Test.YtbjekebkgidhaaaGreatDoorProg
import Derived.Below
import Derived.Test.YtbjekebkgidhaaaGreatDoorRows
import Derived.Lib.SmallJoins
import Derived.Lib.LaidTab
import Derived.LaidSub
import Derived.MakeChecks
import Derived.Lib.Hide
import Derived.WalkSmall
import Derived.WalkKit
import Derived.Maps.Own
import Derived.Maps.OwnSet
import Derived.Maps.OwnOps
import Derived.Maps.Views
import Derived.Maps.StringElems
import Derived.Maps.AppendAt
import Derived.ProofKit
import Derived.WalkSpells
import Derived.Outline
import Derived.Laws.Runes
import Derived.Lib.TrimAscii
import Derived.Deep.QuietTactic
import Derived.BigQuiet
import Derived.RegionTactic
import Derived.Deep.RegionWith
import Derived.Lib.Builder
import Derived.Lib.AppendStr
import Derived.Lib.UnsafeStr
import Derived.Laws.Externs
import Derived.KernelRfl
import Derived.Lib.TrimByte
import Derived.Lib.Split
import Derived.Lib.SplitLaws
import Derived.Lib.IndexBytes
import Derived.RangeFuncNested
import Derived.RangeFuncBound
import Derived.RangeFuncCalls
import Derived.RangeFuncLeaves
import Derived.RangeFuncBox
import Derived.RangeFuncWrites
import Derived.Shelf.Abstract
import Derived.Shelf.RegionOpen
import Derived.OwnWalkIn
import Derived.TacticsInMore
import Derived.LoopNIn
import Derived.LoopIn
import Derived.Sort.LoopGhostIn
import Derived.OneCell
import Derived.Deep.DeepMust
import Derived.Lib.ItoaNum
namespace Go.Proofs.YtbjekebkgidhaaaGreatDoor
theorem gA {α : Type _} {xs : List α} {i : Nat} : xs.toArray[i]? = xs[i]? := List.getElem?_toArray
theorem gB {α : Type _} {a : α} {l : List α} {i : Nat} : (a :: l)[i + 1]? = l[i]? := List.getElem?_cons_succ
theorem gC {α : Type _} {a : α} {l : List α} : (a :: l)[0]? = some a := List.getElem?_cons_zero
theorem pA {α : Type _} {l : List α} {i : Nat} {a : α} : l.toArray.setIfInBounds i a = (l.set i a).toArray := List.setIfInBounds_toArray ..
theorem pB {α : Type _} {x : α} {xs : List α} {a : α} : (x :: xs).set 0 a = a :: xs := rfl
theorem pC {α : Type _} {x : α} {xs : List α} {n : Nat} {a : α} : (x :: xs).set (n + 1) a = x :: xs.set n a := rfl
end Go.Proofs.YtbjekebkgidhaaaGreatDoor
section
set_option linter.unusedVariables false
namespace Go.Proofs.YtbjekebkgidhaaaGreatDoor
variable {H : Type} {enc : TypeId × Value → H}
theorem handed_and_shaped {a : Assume} {C : Checked} {os : Os} {f : FuncId} {fn : Func} {s : ChangeSpec} {conds : List PathCond} {apart fresh handsOn again : Bool} {X : World → Array Value → Prop}
    (hX : ∀ (w w' : World) (args : Array Value), w.heap = w'.heap → X w args → X w' args)
    (own : ownKnob C.prog.godebug = none) (started : os.Started) (noInit : C.prog.inits.idxOf? f = none) (hfn : C.prog.funcs[f]? = some fn)
    (witness : ∃ (w : World) (tape : Tape) (i : Input), w.os = os ∧ (w.forCall tape i).Shaped C.prog ∧ i.vars = [] ∧ Input.okWide C.prog (w.forCall tape i) .any w.heap.size f i ∧
      ((s.pre enc C.prog fn conds apart (w.forCall tape i).memory i.args ∧ X (w.forCall tape i).memory i.args) ∧ sizedMet enc C.prog fn (OpenSpec.ofChange s) apart (w.forCall tape i).memory i.args) ∧ a.holds C.prog (lone (Frame.enter C.prog f i.args .normal) [] (w.forCall tape i)))
    (contract : ∀ (W : World) (base : Nat) (args : Array Value) (ds gs : List (DataW H)) (before : List MemPlace),
      (∀ (j : Nat) t v, fn.params[j]? = some t → args[j]? = some v → Value.okWide C.prog W .any base t v) →
      DataW.Whole enc C.prog fn.params.toList s.vars apart W args.toList ds gs before →
      conds.all (PathCond.test C.prog ⟨fn.params.toList, ds, s.plain.varTypes C.prog, gs⟩) = true →
      (DataW.weightsEach C.prog (fn.params.toList ++ s.plain.varTypes C.prog) (ds ++ gs)).all (· ≤ reachBytes) = true → X W args → W.ShapedOpen C.prog →
      Calls C.prog f args W fun e W' => ∃ v, e = .returned v ∧ s.post enc C.prog fn apart fresh handsOn again W args v W') :
    ReturnsInHanded a C os f .any (fun w args => (s.pre enc C.prog fn conds apart w args ∧ X w args) ∧ sizedMet enc C.prog fn (OpenSpec.ofChange s) apart w args) (s.post enc C.prog fn apart fresh handsOn again) := by
  refine returnsInHanded_of_calls own started noInit witness ?_
  intro w tape i _ hsh _ hok hpre _
  obtain ⟨_, _, _, fn', hfn', _, _, _, _, hval⟩ := hok
  obtain rfl : fn' = fn := Option.some.inj (hfn'.symm.trans hfn)
  obtain ⟨⟨⟨ds, gs, before, hw, hc⟩, hx⟩, hz⟩ := hpre
  have hw' := DataW.Whole.of_heap (w' := w.forCall tape i) (by rfl) hw
  refine (contract (w.forCall tape i) w.heap.size i.args ds gs before hval hw' hc (hz.weights hw) (hX _ _ _ (by rfl) hx) hsh).mono ?_
  rintro e W' ⟨v, rfl, hp⟩
  exact ChangeSpec.post_blind hp
end Go.Proofs.YtbjekebkgidhaaaGreatDoor
end
section
namespace Go.Proofs
open Go.Shelf
def Tryz.lays170_ren : Go.Shelf.Ren := ⟨fun | 170 => 16 | n => n, fun | 70 => 43 | 3 => 3 | 0 => 0 | 72 => 46 | 37 => 44 | 5 => 5 | n => n, fun | n => n⟩
theorem Tryz.lays170 : Go.Proofs.Lays.n170 Tryz.prog Tryz.lays170_ren := {
  mixed := by kernel_rfl
  f170 := Tryz.func16.trans (congrArg some (by kernel_rfl))
  t0 := Tryz.underlying0
  a0 := Tryz.isAgg0
  z0 := Tryz.sizeOf0
  v0 := Tryz.zeroValue0
  t3 := Tryz.underlying3
  a3 := Tryz.isAgg3
  z3 := Tryz.sizeOf3
  v3 := Tryz.zeroValue3
  t37 := Tryz.underlying44
  a37 := Tryz.isAgg44
  z37 := Tryz.sizeOf44
  v37 := Tryz.zeroValue44
  t70 := Tryz.underlying43
  a70 := Tryz.isAgg43
  z70 := Tryz.sizeOf43
  v70 := Tryz.zeroValue43
  t72 := Tryz.underlying46
  a72 := Tryz.isAgg46
  z72 := Tryz.sizeOf46
  v72 := Tryz.zeroValue46 }
open Go.RowKit in
theorem Tryz.Builder_Len (B b : Nat) (bs : List Value) (w : World) (h : Lib.IsBuilder 46 5 B b bs w) :
    Calls Tryz.prog 16 #[.pointer (some ⟨b, 0, none⟩)] w fun e w' => e = .returned (.int .i64 bs.length) ∧ w' = w := Any.Builder_Len Tryz.lays170 B b bs w h
def Tryz.lays169_ren : Go.Shelf.Ren := ⟨fun | 169 => 17 | n => n, fun | 70 => 43 | 9 => 9 | 0 => 0 | 72 => 46 | 37 => 44 | 127 => 83 | 3 => 3 | 5 => 5 | n => n, fun | n => n⟩
theorem Tryz.lays169 : Go.Proofs.Lays.n169 Tryz.prog Tryz.lays169_ren := {
  mixed := by kernel_rfl
  f169 := Tryz.func17.trans (congrArg some (by kernel_rfl))
  t0 := Tryz.underlying0
  a0 := Tryz.isAgg0
  z0 := Tryz.sizeOf0
  v0 := Tryz.zeroValue0
  t3 := Tryz.underlying3
  a3 := Tryz.isAgg3
  z3 := Tryz.sizeOf3
  v3 := Tryz.zeroValue3
  t9 := Tryz.underlying9
  a9 := Tryz.isAgg9
  z9 := Tryz.sizeOf9
  v9 := Tryz.zeroValue9
  t37 := Tryz.underlying44
  a37 := Tryz.isAgg44
  z37 := Tryz.sizeOf44
  v37 := Tryz.zeroValue44
  t70 := Tryz.underlying43
  a70 := Tryz.isAgg43
  z70 := Tryz.sizeOf43
  v70 := Tryz.zeroValue43
  t72 := Tryz.underlying46
  a72 := Tryz.isAgg46
  z72 := Tryz.sizeOf46
  v72 := Tryz.zeroValue46
  t127 := Tryz.underlying83
  a127 := Tryz.isAgg83
  z127 := Tryz.sizeOf83
  v127 := Tryz.zeroValue83 }
theorem Tryz.Builder_Extra_169 : Builder.Extra Tryz.prog Tryz.lays169_ren := {
  sizeBuilder := by kernel_rfl
  liesBuilder := by kernel_rfl
  t5 := Tryz.underlying5
  a5 := Tryz.isAgg5
  z5 := Tryz.sizeOf5
  v5 := Tryz.zeroValue5
  infoByte := by kernel_rfl
  cellsByte := by kernel_rfl
  sizeByte := by kernel_rfl
  neB5 := by decide }
open Go.RowKit in
theorem Tryz.Builder_String_any (B b : Nat) (l : List UInt8) (w : World) (h : Lib.IsBuilder 46 5 B b (Lib.byteCells l) w) (hBw : B ≤ w.heap.size) :
    Calls Tryz.prog 17 #[.pointer (some ⟨b, 0, none⟩)] w fun e w' => e = .returned (.string ⟨l.toArray⟩) ∧ Below B w w' := Any.Builder_String_any Tryz.lays169 Tryz.Builder_Extra_169 B b l w h hBw
def Tryz.lays156_ren : Go.Shelf.Ren := ⟨fun | 156 => 32 | 165 => 59 | 166 => 13 | 169 => 17 | 240 => 29 | 241 => 85 | 276 => 55 | 277 => 113 | n => n, fun | 31 => 23 | 9 => 9 | 3 => 3 | 4 => 4 | 0 => 0 | 20 => 20 | 72 => 46 | 76 => 50 | 70 => 43 | 37 => 44 | 75 => 49 | 127 => 83 | 164 => 108 | 5 => 5 | 80 => 55 | n => n, fun | n => n⟩
theorem Tryz.lays156 : Go.Proofs.Lays.n156 Tryz.prog Tryz.lays156_ren := {
  mixed := by kernel_rfl
  f156 := Tryz.func32.trans (congrArg some (by kernel_rfl))
  f165 := Tryz.func59.trans (congrArg some (by kernel_rfl))
  f166 := Tryz.func13.trans (congrArg some (by kernel_rfl))
  f169 := Tryz.func17.trans (congrArg some (by kernel_rfl))
  f240 := Tryz.func29.trans (congrArg some (by kernel_rfl))
  f241 := Tryz.func85.trans (congrArg some (by kernel_rfl))
  f276 := Tryz.func55.trans (congrArg some (by kernel_rfl))
  f277 := Tryz.func113.trans (congrArg some (by kernel_rfl))
  t0 := Tryz.underlying0
  a0 := Tryz.isAgg0
  z0 := Tryz.sizeOf0
  v0 := Tryz.zeroValue0
  t3 := Tryz.underlying3
  a3 := Tryz.isAgg3
  z3 := Tryz.sizeOf3
  v3 := Tryz.zeroValue3
  t4 := Tryz.underlying4
  a4 := Tryz.isAgg4
  z4 := Tryz.sizeOf4
  v4 := Tryz.zeroValue4
  t9 := Tryz.underlying9
  a9 := Tryz.isAgg9
  z9 := Tryz.sizeOf9
  v9 := Tryz.zeroValue9
  t20 := Tryz.underlying20
  a20 := Tryz.isAgg20
  z20 := Tryz.sizeOf20
  v20 := Tryz.zeroValue20
  t31 := Tryz.underlying23
  a31 := Tryz.isAgg23
  z31 := Tryz.sizeOf23
  v31 := Tryz.zeroValue23
  t37 := Tryz.underlying44
  a37 := Tryz.isAgg44
  z37 := Tryz.sizeOf44
  v37 := Tryz.zeroValue44
  t70 := Tryz.underlying43
  a70 := Tryz.isAgg43
  z70 := Tryz.sizeOf43
  v70 := Tryz.zeroValue43
  t72 := Tryz.underlying46
  a72 := Tryz.isAgg46
  z72 := Tryz.sizeOf46
  v72 := Tryz.zeroValue46
  t75 := Tryz.underlying49
  a75 := Tryz.isAgg49
  z75 := Tryz.sizeOf49
  v75 := Tryz.zeroValue49
  t76 := Tryz.underlying50
  a76 := Tryz.isAgg50
  z76 := Tryz.sizeOf50
  v76 := Tryz.zeroValue50
  t127 := Tryz.underlying83
  a127 := Tryz.isAgg83
  z127 := Tryz.sizeOf83
  v127 := Tryz.zeroValue83
  t164 := Tryz.underlying108
  a164 := Tryz.isAgg108
  z164 := Tryz.sizeOf108
  v164 := Tryz.zeroValue108 }
theorem Tryz.Builder_Extra_156 : Builder.Extra Tryz.prog Tryz.lays156_ren := {
  sizeBuilder := by kernel_rfl
  liesBuilder := by kernel_rfl
  t5 := Tryz.underlying5
  a5 := Tryz.isAgg5
  z5 := Tryz.sizeOf5
  v5 := Tryz.zeroValue5
  infoByte := by kernel_rfl
  cellsByte := by kernel_rfl
  sizeByte := by kernel_rfl
  neB5 := by decide }
open Go.RowKit in
theorem Tryz.strings_Join_none (a : Option Addr) (c : Nat) (sep : ByteArray) (w : World) :
    Calls Tryz.prog 32 #[.slice a 0 c, .string sep] w fun e w' => e = .returned (.string ⟨#[]⟩) ∧ w' = w := Any.strings_Join_none Tryz.lays156 Tryz.Builder_Extra_156 a c sep w
open Go.RowKit in
theorem Tryz.strings_Join (bk o c : Nat) (xs : List ByteArray) (sep : ByteArray) (w : World) (hcells : ∀ (j : Nat) x, xs[j]? = some x → w.cell? ⟨bk, o + j, none⟩ = some (.string x)) (hbk : bk < w.heap.size) (hN : xs.length ≤ 140737488355328) (hcap : xs.length ≤ c) (hlen : (Lib.join (xs.map (·.data.toList)) sep.data.toList).length ≤ 140737488355328) :
    Calls Tryz.prog 32 #[.slice (some ⟨bk, o, none⟩) xs.length c, .string sep] w fun e w' => e = .returned (.string ⟨(Lib.join (xs.map (·.data.toList)) sep.data.toList).toArray⟩) ∧ Below w.heap.size w w' := Any.strings_Join Tryz.lays156 Tryz.Builder_Extra_156 bk o c xs sep w hcells hbk hN hcap hlen
def Tryz.lays161_ren : Go.Shelf.Ren := ⟨fun | 161 => 36 | 231 => 62 | 227 => 63 | 233 => 64 | 235 => 65 | 228 => 90 | 197 => 91 | 151 => 92 | 260 => 117 | 152 => 118 | 137 => 139 | 119 => 140 | 224 => 137 | 225 => 136 | 217 => 135 | 266 => 151 | n => n, fun | 9 => 9 | 4 => 4 | 3 => 3 | 5 => 5 | 117 => 118 | 116 => 117 | 0 => 0 | 124 => 121 | 105 => 153 | 21 => 21 | 119 => 190 | 46 => 180 | 139 => 199 | 138 => 198 | n => n, fun | 3 => 2 | 4 => 3 | n => n⟩
theorem Tryz.lays161 : Go.Proofs.Lays.n161 Tryz.prog Tryz.lays161_ren := {
  mixed := by kernel_rfl
  f119 := Tryz.func140.trans (congrArg some (by kernel_rfl))
  f137 := Tryz.func139.trans (congrArg some (by kernel_rfl))
  f151 := Tryz.func92.trans (congrArg some (by kernel_rfl))
  f152 := Tryz.func118.trans (congrArg some (by kernel_rfl))
  f161 := Tryz.func36.trans (congrArg some (by kernel_rfl))
  f197 := Tryz.func91.trans (congrArg some (by kernel_rfl))
  f217 := Tryz.func135.trans (congrArg some (by kernel_rfl))
  f224 := Tryz.func137.trans (congrArg some (by kernel_rfl))
  f225 := Tryz.func136.trans (congrArg some (by kernel_rfl))
  f227 := Tryz.func63.trans (congrArg some (by kernel_rfl))
  f228 := Tryz.func90.trans (congrArg some (by kernel_rfl))
  f231 := Tryz.func62.trans (congrArg some (by kernel_rfl))
  f233 := Tryz.func64.trans (congrArg some (by kernel_rfl))
  f235 := Tryz.func65.trans (congrArg some (by kernel_rfl))
  f260 := Tryz.func117.trans (congrArg some (by kernel_rfl))
  f266 := Tryz.func151.trans (congrArg some (by kernel_rfl))
  t0 := Tryz.underlying0
  a0 := Tryz.isAgg0
  z0 := Tryz.sizeOf0
  v0 := Tryz.zeroValue0
  t3 := Tryz.underlying3
  a3 := Tryz.isAgg3
  z3 := Tryz.sizeOf3
  v3 := Tryz.zeroValue3
  t4 := Tryz.underlying4
  a4 := Tryz.isAgg4
  z4 := Tryz.sizeOf4
  v4 := Tryz.zeroValue4
  t5 := Tryz.underlying5
  a5 := Tryz.isAgg5
  z5 := Tryz.sizeOf5
  v5 := Tryz.zeroValue5
  t9 := Tryz.underlying9
  a9 := Tryz.isAgg9
  z9 := Tryz.sizeOf9
  v9 := Tryz.zeroValue9
  t21 := Tryz.underlying21
  a21 := Tryz.isAgg21
  z21 := Tryz.sizeOf21
  v21 := Tryz.zeroValue21
  t46 := Tryz.underlying180
  a46 := Tryz.isAgg180
  z46 := Tryz.sizeOf180
  v46 := Tryz.zeroValue180
  t105 := Tryz.underlying153
  a105 := Tryz.isAgg153
  z105 := Tryz.sizeOf153
  v105 := Tryz.zeroValue153
  t116 := Tryz.underlying117
  a116 := Tryz.isAgg117
  z116 := Tryz.sizeOf117
  t117 := Tryz.underlying118
  a117 := Tryz.isAgg118
  z117 := Tryz.sizeOf118
  v117 := Tryz.zeroValue118
  t119 := Tryz.underlying190
  a119 := Tryz.isAgg190
  z119 := Tryz.sizeOf190
  t124 := Tryz.underlying121
  a124 := Tryz.isAgg121
  z124 := Tryz.sizeOf121
  v124 := Tryz.zeroValue121
  t138 := Tryz.underlying198
  a138 := Tryz.isAgg198
  z138 := Tryz.sizeOf198
  v138 := Tryz.zeroValue198
  t139 := Tryz.underlying199
  a139 := Tryz.isAgg199
  z139 := Tryz.sizeOf199
  v139 := Tryz.zeroValue199
  g3 := by kernel_rfl
  g4 := by kernel_rfl }
open Go.RowKit in
theorem Tryz.strings_TrimLeft_one (s : ByteArray) (c : UInt8) (hc : c.toNat < 128) (w : World) :
    Calls Tryz.prog 36 #[.string s, .string ⟨#[c]⟩] w fun e w' => e = .returned (.string ⟨(Lib.trimLeftB s.data.toList c).toArray⟩) ∧ w' = w := Any.strings_TrimLeft_one Tryz.lays161 s c hc w
def Tryz.lays162_ren : Go.Shelf.Ren := ⟨fun | 162 => 66 | 232 => 93 | 227 => 63 | 234 => 94 | 236 => 95 | 228 => 90 | 271 => 119 | 151 => 92 | 120 => 141 | 197 => 91 | 152 => 118 | 260 => 117 | 137 => 139 | 119 => 140 | 224 => 137 | 225 => 136 | 217 => 135 | 266 => 151 | n => n, fun | 9 => 9 | 4 => 4 | 3 => 3 | 5 => 5 | 117 => 118 | 116 => 117 | 0 => 0 | 124 => 121 | 21 => 21 | 105 => 153 | 46 => 180 | 119 => 190 | 139 => 199 | 138 => 198 | n => n, fun | 3 => 2 | 4 => 3 | n => n⟩
theorem Tryz.lays162 : Go.Proofs.Lays.n162 Tryz.prog Tryz.lays162_ren := {
  mixed := by kernel_rfl
  f119 := Tryz.func140.trans (congrArg some (by kernel_rfl))
  f120 := Tryz.func141.trans (congrArg some (by kernel_rfl))
  f137 := Tryz.func139.trans (congrArg some (by kernel_rfl))
  f151 := Tryz.func92.trans (congrArg some (by kernel_rfl))
  f152 := Tryz.func118.trans (congrArg some (by kernel_rfl))
  f162 := Tryz.func66.trans (congrArg some (by kernel_rfl))
  f197 := Tryz.func91.trans (congrArg some (by kernel_rfl))
  f217 := Tryz.func135.trans (congrArg some (by kernel_rfl))
  f224 := Tryz.func137.trans (congrArg some (by kernel_rfl))
  f225 := Tryz.func136.trans (congrArg some (by kernel_rfl))
  f227 := Tryz.func63.trans (congrArg some (by kernel_rfl))
  f228 := Tryz.func90.trans (congrArg some (by kernel_rfl))
  f232 := Tryz.func93.trans (congrArg some (by kernel_rfl))
  f234 := Tryz.func94.trans (congrArg some (by kernel_rfl))
  f236 := Tryz.func95.trans (congrArg some (by kernel_rfl))
  f260 := Tryz.func117.trans (congrArg some (by kernel_rfl))
  f266 := Tryz.func151.trans (congrArg some (by kernel_rfl))
  f271 := Tryz.func119.trans (congrArg some (by kernel_rfl))
  t0 := Tryz.underlying0
  a0 := Tryz.isAgg0
  z0 := Tryz.sizeOf0
  v0 := Tryz.zeroValue0
  t3 := Tryz.underlying3
  a3 := Tryz.isAgg3
  z3 := Tryz.sizeOf3
  v3 := Tryz.zeroValue3
  t4 := Tryz.underlying4
  a4 := Tryz.isAgg4
  z4 := Tryz.sizeOf4
  v4 := Tryz.zeroValue4
  t5 := Tryz.underlying5
  a5 := Tryz.isAgg5
  z5 := Tryz.sizeOf5
  v5 := Tryz.zeroValue5
  t9 := Tryz.underlying9
  a9 := Tryz.isAgg9
  z9 := Tryz.sizeOf9
  v9 := Tryz.zeroValue9
  t21 := Tryz.underlying21
  a21 := Tryz.isAgg21
  z21 := Tryz.sizeOf21
  v21 := Tryz.zeroValue21
  t46 := Tryz.underlying180
  a46 := Tryz.isAgg180
  z46 := Tryz.sizeOf180
  v46 := Tryz.zeroValue180
  t105 := Tryz.underlying153
  a105 := Tryz.isAgg153
  z105 := Tryz.sizeOf153
  v105 := Tryz.zeroValue153
  t116 := Tryz.underlying117
  a116 := Tryz.isAgg117
  z116 := Tryz.sizeOf117
  t117 := Tryz.underlying118
  a117 := Tryz.isAgg118
  z117 := Tryz.sizeOf118
  v117 := Tryz.zeroValue118
  t119 := Tryz.underlying190
  a119 := Tryz.isAgg190
  z119 := Tryz.sizeOf190
  t124 := Tryz.underlying121
  a124 := Tryz.isAgg121
  z124 := Tryz.sizeOf121
  v124 := Tryz.zeroValue121
  t138 := Tryz.underlying198
  a138 := Tryz.isAgg198
  z138 := Tryz.sizeOf198
  v138 := Tryz.zeroValue198
  t139 := Tryz.underlying199
  a139 := Tryz.isAgg199
  z139 := Tryz.sizeOf199
  v139 := Tryz.zeroValue199
  g3 := by kernel_rfl
  g4 := by kernel_rfl }
open Go.RowKit in
theorem Tryz.strings_TrimRight_one (s : ByteArray) (c : UInt8) (hc : c.toNat < 128) (w : World) (hs : s.size ≤ 9223372036854775807) :
    Calls Tryz.prog 66 #[.string s, .string ⟨#[c]⟩] w fun e w' => e = .returned (.string ⟨(Lib.trimRightB s.data.toList c).toArray⟩) ∧ w' = w := Any.strings_TrimRight_one Tryz.lays162 s c hc w hs
def Tryz.lays160_ren : Go.Shelf.Ren := ⟨fun | 160 => 68 | 232 => 93 | 231 => 62 | 227 => 63 | 234 => 94 | 233 => 64 | 236 => 95 | 235 => 65 | 228 => 90 | 271 => 119 | 151 => 92 | 197 => 91 | 120 => 141 | 152 => 118 | 260 => 117 | 137 => 139 | 119 => 140 | 224 => 137 | 225 => 136 | 217 => 135 | 266 => 151 | n => n, fun | 9 => 9 | 4 => 4 | 3 => 3 | 5 => 5 | 117 => 118 | 116 => 117 | 0 => 0 | 124 => 121 | 21 => 21 | 105 => 153 | 46 => 180 | 119 => 190 | 139 => 199 | 138 => 198 | n => n, fun | 3 => 2 | 4 => 3 | n => n⟩
theorem Tryz.lays160 : Go.Proofs.Lays.n160 Tryz.prog Tryz.lays160_ren := {
  mixed := by kernel_rfl
  f119 := Tryz.func140.trans (congrArg some (by kernel_rfl))
  f120 := Tryz.func141.trans (congrArg some (by kernel_rfl))
  f137 := Tryz.func139.trans (congrArg some (by kernel_rfl))
  f151 := Tryz.func92.trans (congrArg some (by kernel_rfl))
  f152 := Tryz.func118.trans (congrArg some (by kernel_rfl))
  f160 := Tryz.func68.trans (congrArg some (by kernel_rfl))
  f197 := Tryz.func91.trans (congrArg some (by kernel_rfl))
  f217 := Tryz.func135.trans (congrArg some (by kernel_rfl))
  f224 := Tryz.func137.trans (congrArg some (by kernel_rfl))
  f225 := Tryz.func136.trans (congrArg some (by kernel_rfl))
  f227 := Tryz.func63.trans (congrArg some (by kernel_rfl))
  f228 := Tryz.func90.trans (congrArg some (by kernel_rfl))
  f231 := Tryz.func62.trans (congrArg some (by kernel_rfl))
  f232 := Tryz.func93.trans (congrArg some (by kernel_rfl))
  f233 := Tryz.func64.trans (congrArg some (by kernel_rfl))
  f234 := Tryz.func94.trans (congrArg some (by kernel_rfl))
  f235 := Tryz.func65.trans (congrArg some (by kernel_rfl))
  f236 := Tryz.func95.trans (congrArg some (by kernel_rfl))
  f260 := Tryz.func117.trans (congrArg some (by kernel_rfl))
  f266 := Tryz.func151.trans (congrArg some (by kernel_rfl))
  f271 := Tryz.func119.trans (congrArg some (by kernel_rfl))
  t0 := Tryz.underlying0
  a0 := Tryz.isAgg0
  z0 := Tryz.sizeOf0
  v0 := Tryz.zeroValue0
  t3 := Tryz.underlying3
  a3 := Tryz.isAgg3
  z3 := Tryz.sizeOf3
  v3 := Tryz.zeroValue3
  t4 := Tryz.underlying4
  a4 := Tryz.isAgg4
  z4 := Tryz.sizeOf4
  v4 := Tryz.zeroValue4
  t5 := Tryz.underlying5
  a5 := Tryz.isAgg5
  z5 := Tryz.sizeOf5
  v5 := Tryz.zeroValue5
  t9 := Tryz.underlying9
  a9 := Tryz.isAgg9
  z9 := Tryz.sizeOf9
  v9 := Tryz.zeroValue9
  t21 := Tryz.underlying21
  a21 := Tryz.isAgg21
  z21 := Tryz.sizeOf21
  v21 := Tryz.zeroValue21
  t46 := Tryz.underlying180
  a46 := Tryz.isAgg180
  z46 := Tryz.sizeOf180
  v46 := Tryz.zeroValue180
  t105 := Tryz.underlying153
  a105 := Tryz.isAgg153
  z105 := Tryz.sizeOf153
  v105 := Tryz.zeroValue153
  t116 := Tryz.underlying117
  a116 := Tryz.isAgg117
  z116 := Tryz.sizeOf117
  t117 := Tryz.underlying118
  a117 := Tryz.isAgg118
  z117 := Tryz.sizeOf118
  v117 := Tryz.zeroValue118
  t119 := Tryz.underlying190
  a119 := Tryz.isAgg190
  z119 := Tryz.sizeOf190
  t124 := Tryz.underlying121
  a124 := Tryz.isAgg121
  z124 := Tryz.sizeOf121
  v124 := Tryz.zeroValue121
  t138 := Tryz.underlying198
  a138 := Tryz.isAgg198
  z138 := Tryz.sizeOf198
  v138 := Tryz.zeroValue198
  t139 := Tryz.underlying199
  a139 := Tryz.isAgg199
  z139 := Tryz.sizeOf199
  v139 := Tryz.zeroValue199
  g3 := by kernel_rfl
  g4 := by kernel_rfl }
open Go.RowKit in
theorem Tryz.strings_Trim_one (s : ByteArray) (c : UInt8) (hc : c.toNat < 128) (w : World) (hs : s.size ≤ 9223372036854775807) :
    Calls Tryz.prog 68 #[.string s, .string ⟨#[c]⟩] w fun e w' => e = .returned (.string ⟨(Lib.trimB s.data.toList c).toArray⟩) ∧ (w' = w ∨ w' = w.drew) := Any.strings_Trim_one Tryz.lays160 s c hc w hs
def Tryz.lays119_ren : Go.Shelf.Ren := ⟨fun | 119 => 140 | n => n, fun | 21 => 21 | 4 => 4 | n => n, fun | n => n⟩
theorem Tryz.lays119 : Go.Proofs.Lays.n119 Tryz.prog Tryz.lays119_ren := {
  mixed := by kernel_rfl
  f119 := Tryz.func140.trans (congrArg some (by kernel_rfl))
  t4 := Tryz.underlying4
  a4 := Tryz.isAgg4
  z4 := Tryz.sizeOf4
  v4 := Tryz.zeroValue4
  t21 := Tryz.underlying21
  a21 := Tryz.isAgg21
  z21 := Tryz.sizeOf21
  v21 := Tryz.zeroValue21 }
theorem Tryz.utf8_ValidRune (r : Int) (w : World) :
    Calls Tryz.prog 140 #[.int .i32 r] w fun e w' => e = .returned (.bool (Lib.validRune r)) ∧ w' = w := Any.utf8_ValidRune Tryz.lays119 r w
def Tryz.lays137_ren : Go.Shelf.Ren := ⟨fun | 137 => 139 | 217 => 135 | 266 => 151 | n => n, fun | 9 => 9 | 5 => 5 | 3 => 3 | n => n, fun | n => n⟩
theorem Tryz.lays137 : Go.Proofs.Lays.n137 Tryz.prog Tryz.lays137_ren := {
  mixed := by kernel_rfl
  f137 := Tryz.func139.trans (congrArg some (by kernel_rfl))
  f217 := Tryz.func135.trans (congrArg some (by kernel_rfl))
  f266 := Tryz.func151.trans (congrArg some (by kernel_rfl))
  t3 := Tryz.underlying3
  a3 := Tryz.isAgg3
  z3 := Tryz.sizeOf3
  v3 := Tryz.zeroValue3
  t5 := Tryz.underlying5
  a5 := Tryz.isAgg5
  z5 := Tryz.sizeOf5
  v5 := Tryz.zeroValue5
  t9 := Tryz.underlying9
  a9 := Tryz.isAgg9
  z9 := Tryz.sizeOf9
  v9 := Tryz.zeroValue9 }
open Go.RowKit in
theorem Tryz.strings_IndexByte (s : ByteArray) (c : Int) (w : World) :
    Calls Tryz.prog 139 #[.string s, .int .u8 c] w fun e w' => e = .returned (.int .i64 (Lib.indexByte s.data.toList c.toNat.toUInt8)) ∧ w' = w := Any.strings_IndexByte Tryz.lays137 s c w
def Tryz.laysM171_ren : Go.Shelf.Ren := ⟨fun | 171 => 30 | 243 => 56 | 246 => 82 | 283 => 106 | 284 => 107 | 285 => 108 | 286 => 109 | 129 => 125 | 317 => 124 | 318 => 126 | 319 => 127 | 320 => 128 | 337 => 143 | 338 => 144 | n => n, fun | 3 => 3 | 9 => 9 | 2 => 2 | 4 => 4 | 171 => 162 | 0 => 0 | 53 => 163 | 37 => 44 | 5 => 5 | 173 => 166 | 212 => 177 | 51 => 135 | 20 => 20 | 213 => 178 | 46 => 180 | 232 => 218 | 233 => 219 | n => n, fun | 17 => 0 | 18 => 4 | 19 => 5 | n => n⟩
theorem Tryz.laysM171 : Go.Proofs.LaysM.n171 Tryz.prog Tryz.laysM171_ren := {
  mixed := by kernel_rfl
  f129 := Tryz.func125.trans (congrArg some (by kernel_rfl))
  f171 := Tryz.func30.trans (congrArg some (by kernel_rfl))
  f243 := Tryz.func56.trans (congrArg some (by kernel_rfl))
  f246 := Tryz.func82.trans (congrArg some (by kernel_rfl))
  f283 := Tryz.func106.trans (congrArg some (by kernel_rfl))
  f284 := Tryz.func107.trans (congrArg some (by kernel_rfl))
  f285 := Tryz.func108.trans (congrArg some (by kernel_rfl))
  f286 := Tryz.func109.trans (congrArg some (by kernel_rfl))
  f317 := Tryz.func124.trans (congrArg some (by kernel_rfl))
  f318 := Tryz.func126.trans (congrArg some (by kernel_rfl))
  f319 := Tryz.func127.trans (congrArg some (by kernel_rfl))
  f320 := Tryz.func128.trans (congrArg some (by kernel_rfl))
  f337 := Tryz.func143.trans (congrArg some (by kernel_rfl))
  f338 := Tryz.func144.trans (congrArg some (by kernel_rfl))
  t0 := Tryz.underlying0
  a0 := Tryz.isAgg0
  z0 := Tryz.sizeOf0
  v0 := Tryz.zeroValue0
  t2 := Tryz.underlying2
  a2 := Tryz.isAgg2
  z2 := Tryz.sizeOf2
  v2 := Tryz.zeroValue2
  t3 := Tryz.underlying3
  a3 := Tryz.isAgg3
  z3 := Tryz.sizeOf3
  v3 := Tryz.zeroValue3
  t4 := Tryz.underlying4
  a4 := Tryz.isAgg4
  z4 := Tryz.sizeOf4
  v4 := Tryz.zeroValue4
  t5 := Tryz.underlying5
  a5 := Tryz.isAgg5
  z5 := Tryz.sizeOf5
  v5 := Tryz.zeroValue5
  t9 := Tryz.underlying9
  a9 := Tryz.isAgg9
  z9 := Tryz.sizeOf9
  v9 := Tryz.zeroValue9
  t20 := Tryz.underlying20
  a20 := Tryz.isAgg20
  z20 := Tryz.sizeOf20
  v20 := Tryz.zeroValue20
  t37 := Tryz.underlying44
  a37 := Tryz.isAgg44
  z37 := Tryz.sizeOf44
  v37 := Tryz.zeroValue44
  t46 := Tryz.underlying180
  a46 := Tryz.isAgg180
  z46 := Tryz.sizeOf180
  v46 := Tryz.zeroValue180
  t51 := Tryz.underlying135
  a51 := Tryz.isAgg135
  z51 := Tryz.sizeOf135
  v51 := Tryz.zeroValue135
  t53 := Tryz.underlying163
  a53 := Tryz.isAgg163
  z53 := Tryz.sizeOf163
  v53 := Tryz.zeroValue163
  t171 := Tryz.underlying162
  a171 := Tryz.isAgg162
  z171 := Tryz.sizeOf162
  v171 := Tryz.zeroValue162
  t173 := Tryz.underlying166
  a173 := Tryz.isAgg166
  z173 := Tryz.sizeOf166
  v173 := Tryz.zeroValue166
  t212 := Tryz.underlying177
  a212 := Tryz.isAgg177
  z212 := Tryz.sizeOf177
  v212 := Tryz.zeroValue177
  t213 := Tryz.underlying178
  a213 := Tryz.isAgg178
  z213 := Tryz.sizeOf178
  t232 := Tryz.underlying218
  a232 := Tryz.isAgg218
  z232 := Tryz.sizeOf218
  v232 := Tryz.zeroValue218
  t233 := Tryz.underlying219
  a233 := Tryz.isAgg219
  z233 := Tryz.sizeOf219
  v233 := Tryz.zeroValue219
  g17 := by kernel_rfl
  g18 := by kernel_rfl
  g19 := by kernel_rfl
  i0 := by kernel_rfl
  i2 := by kernel_rfl
  i3 := by kernel_rfl
  i4 := by kernel_rfl
  i5 := by kernel_rfl
  i9 := by kernel_rfl
  i20 := by kernel_rfl
  i37 := by kernel_rfl
  i46 := by kernel_rfl
  i51 := by kernel_rfl
  i53 := by kernel_rfl
  i171 := by kernel_rfl
  i173 := by kernel_rfl
  i212 := by kernel_rfl
  i232 := by kernel_rfl
  i233 := by kernel_rfl
  m17 := by kernel_rfl
  m18 := by kernel_rfl
  m19 := by kernel_rfl }
open Go.RowKit Go.Sort Go.Lib in
theorem Tryz.strconv_Itoa (n : Int) (h0 : -9223372036854775808 ≤ n) (h1 : n ≤ 9223372036854775807) (w : World) (htab : Lib.TabIs Tryz.prog w "internal/strconv.uint64pow10" .u64 Lib.pow10Tab) :
    Calls Tryz.prog 30 #[.int .i64 n] w fun e w' => e = .returned (.string ⟨(Lib.itoa n).toArray⟩) ∧ ∃ k os, w' = grow (w.drewN k) os := Any.strconv_Itoa Tryz.laysM171 n h0 h1 w htab
def Tryz.lays171_ren : Go.Shelf.Ren := ⟨fun | 171 => 30 | 243 => 56 | 246 => 82 | 283 => 106 | 284 => 107 | 285 => 108 | 286 => 109 | 129 => 125 | 317 => 124 | 318 => 126 | 319 => 127 | 320 => 128 | 337 => 143 | 338 => 144 | n => n, fun | 3 => 3 | 9 => 9 | 2 => 2 | 4 => 4 | 171 => 162 | 0 => 0 | 53 => 163 | 37 => 44 | 5 => 5 | 173 => 166 | 212 => 177 | 51 => 135 | 20 => 20 | 213 => 178 | 46 => 180 | 232 => 218 | 233 => 219 | n => n, fun | 17 => 0 | 18 => 4 | 19 => 5 | n => n⟩
theorem Tryz.lays171 : Go.Proofs.Lays.n171 Tryz.prog Tryz.lays171_ren := {
  mixed := by kernel_rfl
  f129 := Tryz.func125.trans (congrArg some (by kernel_rfl))
  f171 := Tryz.func30.trans (congrArg some (by kernel_rfl))
  f243 := Tryz.func56.trans (congrArg some (by kernel_rfl))
  f246 := Tryz.func82.trans (congrArg some (by kernel_rfl))
  f283 := Tryz.func106.trans (congrArg some (by kernel_rfl))
  f284 := Tryz.func107.trans (congrArg some (by kernel_rfl))
  f285 := Tryz.func108.trans (congrArg some (by kernel_rfl))
  f286 := Tryz.func109.trans (congrArg some (by kernel_rfl))
  f317 := Tryz.func124.trans (congrArg some (by kernel_rfl))
  f318 := Tryz.func126.trans (congrArg some (by kernel_rfl))
  f319 := Tryz.func127.trans (congrArg some (by kernel_rfl))
  f320 := Tryz.func128.trans (congrArg some (by kernel_rfl))
  f337 := Tryz.func143.trans (congrArg some (by kernel_rfl))
  f338 := Tryz.func144.trans (congrArg some (by kernel_rfl))
  t0 := Tryz.underlying0
  a0 := Tryz.isAgg0
  z0 := Tryz.sizeOf0
  v0 := Tryz.zeroValue0
  t2 := Tryz.underlying2
  a2 := Tryz.isAgg2
  z2 := Tryz.sizeOf2
  v2 := Tryz.zeroValue2
  t3 := Tryz.underlying3
  a3 := Tryz.isAgg3
  z3 := Tryz.sizeOf3
  v3 := Tryz.zeroValue3
  t4 := Tryz.underlying4
  a4 := Tryz.isAgg4
  z4 := Tryz.sizeOf4
  v4 := Tryz.zeroValue4
  t5 := Tryz.underlying5
  a5 := Tryz.isAgg5
  z5 := Tryz.sizeOf5
  v5 := Tryz.zeroValue5
  t9 := Tryz.underlying9
  a9 := Tryz.isAgg9
  z9 := Tryz.sizeOf9
  v9 := Tryz.zeroValue9
  t20 := Tryz.underlying20
  a20 := Tryz.isAgg20
  z20 := Tryz.sizeOf20
  v20 := Tryz.zeroValue20
  t37 := Tryz.underlying44
  a37 := Tryz.isAgg44
  z37 := Tryz.sizeOf44
  v37 := Tryz.zeroValue44
  t46 := Tryz.underlying180
  a46 := Tryz.isAgg180
  z46 := Tryz.sizeOf180
  v46 := Tryz.zeroValue180
  t51 := Tryz.underlying135
  a51 := Tryz.isAgg135
  z51 := Tryz.sizeOf135
  v51 := Tryz.zeroValue135
  t53 := Tryz.underlying163
  a53 := Tryz.isAgg163
  z53 := Tryz.sizeOf163
  v53 := Tryz.zeroValue163
  t171 := Tryz.underlying162
  a171 := Tryz.isAgg162
  z171 := Tryz.sizeOf162
  v171 := Tryz.zeroValue162
  t173 := Tryz.underlying166
  a173 := Tryz.isAgg166
  z173 := Tryz.sizeOf166
  v173 := Tryz.zeroValue166
  t212 := Tryz.underlying177
  a212 := Tryz.isAgg177
  z212 := Tryz.sizeOf177
  v212 := Tryz.zeroValue177
  t213 := Tryz.underlying178
  a213 := Tryz.isAgg178
  z213 := Tryz.sizeOf178
  t232 := Tryz.underlying218
  a232 := Tryz.isAgg218
  z232 := Tryz.sizeOf218
  v232 := Tryz.zeroValue218
  t233 := Tryz.underlying219
  a233 := Tryz.isAgg219
  z233 := Tryz.sizeOf219
  v233 := Tryz.zeroValue219
  g17 := by kernel_rfl
  g18 := by kernel_rfl
  g19 := by kernel_rfl }
open Go.RowKit Go.Sort Go.Lib in
theorem Tryz.strconv_Itoa_small (i : Nat) (hi : i < 100) (w : World) :
    Calls Tryz.prog 30 #[.int .i64 i] w fun e w' => e = .returned (.string ⟨(Lib.decDigits i).toArray⟩) ∧ w' = w := Any.strconv_Itoa_small Tryz.lays171 i hi w
def Tryz.lays219_ren : Go.Shelf.Ren := ⟨fun | 219 => 116 | 217 => 135 | 225 => 136 | 224 => 137 | 267 => 138 | 266 => 151 | 314 => 152 | n => n, fun | 9 => 9 | 3 => 3 | 4 => 4 | 5 => 5 | 46 => 180 | 146 => 216 | 51 => 135 | n => n, fun | 1 => 1 | n => n⟩
theorem Tryz.lays219 : Go.Proofs.Lays.n219 Tryz.prog Tryz.lays219_ren := {
  mixed := by kernel_rfl
  f217 := Tryz.func135.trans (congrArg some (by kernel_rfl))
  f219 := Tryz.func116.trans (congrArg some (by kernel_rfl))
  f224 := Tryz.func137.trans (congrArg some (by kernel_rfl))
  f225 := Tryz.func136.trans (congrArg some (by kernel_rfl))
  f266 := Tryz.func151.trans (congrArg some (by kernel_rfl))
  f267 := Tryz.func138.trans (congrArg some (by kernel_rfl))
  f314 := Tryz.func152.trans (congrArg some (by kernel_rfl))
  t3 := Tryz.underlying3
  a3 := Tryz.isAgg3
  z3 := Tryz.sizeOf3
  v3 := Tryz.zeroValue3
  t4 := Tryz.underlying4
  a4 := Tryz.isAgg4
  z4 := Tryz.sizeOf4
  v4 := Tryz.zeroValue4
  t5 := Tryz.underlying5
  a5 := Tryz.isAgg5
  z5 := Tryz.sizeOf5
  v5 := Tryz.zeroValue5
  t9 := Tryz.underlying9
  a9 := Tryz.isAgg9
  z9 := Tryz.sizeOf9
  v9 := Tryz.zeroValue9
  t46 := Tryz.underlying180
  a46 := Tryz.isAgg180
  z46 := Tryz.sizeOf180
  v46 := Tryz.zeroValue180
  t51 := Tryz.underlying135
  a51 := Tryz.isAgg135
  z51 := Tryz.sizeOf135
  v51 := Tryz.zeroValue135
  t146 := Tryz.underlying216
  a146 := Tryz.isAgg216
  z146 := Tryz.sizeOf216
  v146 := Tryz.zeroValue216
  g1 := by kernel_rfl }
open Go.RowKit Go.Lib in
theorem Tryz.stringslite_Index_one (s : ByteArray) (c : UInt8) (w : World) :
    Calls Tryz.prog 116 #[.string s, .string ⟨#[c]⟩] w fun e w' => e = .returned (.int .i64 (Lib.indexByte s.data.toList c)) ∧ w' = w := Any.stringslite_Index_one Tryz.lays219 s c w
def Tryz.lays143_ren : Go.Shelf.Ren := ⟨fun | 143 => 88 | 219 => 116 | 217 => 135 | 225 => 136 | 224 => 137 | 267 => 138 | 266 => 151 | 314 => 152 | n => n, fun | 9 => 9 | 3 => 3 | 4 => 4 | 5 => 5 | 46 => 180 | 146 => 216 | 51 => 135 | n => n, fun | 1 => 1 | n => n⟩
theorem Tryz.lays143 : Go.Proofs.Lays.n143 Tryz.prog Tryz.lays143_ren := {
  mixed := by kernel_rfl
  f143 := Tryz.func88.trans (congrArg some (by kernel_rfl))
  f217 := Tryz.func135.trans (congrArg some (by kernel_rfl))
  f219 := Tryz.func116.trans (congrArg some (by kernel_rfl))
  f224 := Tryz.func137.trans (congrArg some (by kernel_rfl))
  f225 := Tryz.func136.trans (congrArg some (by kernel_rfl))
  f266 := Tryz.func151.trans (congrArg some (by kernel_rfl))
  f267 := Tryz.func138.trans (congrArg some (by kernel_rfl))
  f314 := Tryz.func152.trans (congrArg some (by kernel_rfl))
  t3 := Tryz.underlying3
  a3 := Tryz.isAgg3
  z3 := Tryz.sizeOf3
  v3 := Tryz.zeroValue3
  t4 := Tryz.underlying4
  a4 := Tryz.isAgg4
  z4 := Tryz.sizeOf4
  v4 := Tryz.zeroValue4
  t5 := Tryz.underlying5
  a5 := Tryz.isAgg5
  z5 := Tryz.sizeOf5
  v5 := Tryz.zeroValue5
  t9 := Tryz.underlying9
  a9 := Tryz.isAgg9
  z9 := Tryz.sizeOf9
  v9 := Tryz.zeroValue9
  t46 := Tryz.underlying180
  a46 := Tryz.isAgg180
  z46 := Tryz.sizeOf180
  v46 := Tryz.zeroValue180
  t51 := Tryz.underlying135
  a51 := Tryz.isAgg135
  z51 := Tryz.sizeOf135
  v51 := Tryz.zeroValue135
  t146 := Tryz.underlying216
  a146 := Tryz.isAgg216
  z146 := Tryz.sizeOf216
  v146 := Tryz.zeroValue216
  g1 := by kernel_rfl }
open Go.RowKit Go.Lib in
theorem Tryz.strings_Index_one (s : ByteArray) (c : UInt8) (w : World) :
    Calls Tryz.prog 88 #[.string s, .string ⟨#[c]⟩] w fun e w' => e = .returned (.int .i64 (Lib.indexByte s.data.toList c)) ∧ w' = w := Any.strings_Index_one Tryz.lays143 s c w
def Tryz.lays138_ren : Go.Shelf.Ren := ⟨fun | 138 => 87 | 195 => 114 | 218 => 115 | 143 => 88 | 219 => 116 | 217 => 135 | 225 => 136 | 224 => 137 | 267 => 138 | 266 => 151 | 314 => 152 | n => n, fun | 9 => 9 | 3 => 3 | 4 => 4 | 5 => 5 | 0 => 0 | 46 => 180 | 146 => 216 | 51 => 135 | n => n, fun | 1 => 1 | n => n⟩
theorem Tryz.lays138 : Go.Proofs.Lays.n138 Tryz.prog Tryz.lays138_ren := {
  mixed := by kernel_rfl
  f138 := Tryz.func87.trans (congrArg some (by kernel_rfl))
  f143 := Tryz.func88.trans (congrArg some (by kernel_rfl))
  f195 := Tryz.func114.trans (congrArg some (by kernel_rfl))
  f217 := Tryz.func135.trans (congrArg some (by kernel_rfl))
  f218 := Tryz.func115.trans (congrArg some (by kernel_rfl))
  f219 := Tryz.func116.trans (congrArg some (by kernel_rfl))
  f224 := Tryz.func137.trans (congrArg some (by kernel_rfl))
  f225 := Tryz.func136.trans (congrArg some (by kernel_rfl))
  f266 := Tryz.func151.trans (congrArg some (by kernel_rfl))
  f267 := Tryz.func138.trans (congrArg some (by kernel_rfl))
  f314 := Tryz.func152.trans (congrArg some (by kernel_rfl))
  t0 := Tryz.underlying0
  a0 := Tryz.isAgg0
  z0 := Tryz.sizeOf0
  v0 := Tryz.zeroValue0
  t3 := Tryz.underlying3
  a3 := Tryz.isAgg3
  z3 := Tryz.sizeOf3
  v3 := Tryz.zeroValue3
  t4 := Tryz.underlying4
  a4 := Tryz.isAgg4
  z4 := Tryz.sizeOf4
  v4 := Tryz.zeroValue4
  t5 := Tryz.underlying5
  a5 := Tryz.isAgg5
  z5 := Tryz.sizeOf5
  v5 := Tryz.zeroValue5
  t9 := Tryz.underlying9
  a9 := Tryz.isAgg9
  z9 := Tryz.sizeOf9
  v9 := Tryz.zeroValue9
  t46 := Tryz.underlying180
  a46 := Tryz.isAgg180
  z46 := Tryz.sizeOf180
  v46 := Tryz.zeroValue180
  t51 := Tryz.underlying135
  a51 := Tryz.isAgg135
  z51 := Tryz.sizeOf135
  v51 := Tryz.zeroValue135
  t146 := Tryz.underlying216
  a146 := Tryz.isAgg216
  z146 := Tryz.sizeOf216
  v146 := Tryz.zeroValue216
  g1 := by kernel_rfl }
open Go.RowKit Go.Lib in
theorem Tryz.strings_Count_one (s : ByteArray) (c : UInt8) (w : World) :
    Calls Tryz.prog 87 #[.string s, .string ⟨#[c]⟩] w fun e w' => e = .returned (.int .i64 (Lib.countByte s.data.toList c)) ∧ w' = w := Any.strings_Count_one Tryz.lays138 s c w
def Tryz.laysGw15_ren : Go.Shelf.Ren := ⟨fun | 15 => 61 | 20 => 89 | n => n, fun | 9 => 9 | 23 => 84 | 3 => 3 | 4 => 4 | 0 => 0 | 21 => 21 | n => n, fun | n => n⟩
theorem Tryz.laysGw15 : Go.Proofs.LaysGw.n15 Tryz.prog Tryz.laysGw15_ren := {
  mixed := by kernel_rfl
  f15 := Tryz.func61.trans (congrArg some (by kernel_rfl))
  f20 := Tryz.func89.trans (congrArg some (by kernel_rfl))
  t0 := Tryz.underlying0
  a0 := Tryz.isAgg0
  z0 := Tryz.sizeOf0
  v0 := Tryz.zeroValue0
  i0 := by kernel_rfl
  t3 := Tryz.underlying3
  a3 := Tryz.isAgg3
  z3 := Tryz.sizeOf3
  v3 := Tryz.zeroValue3
  i3 := by kernel_rfl
  t4 := Tryz.underlying4
  a4 := Tryz.isAgg4
  z4 := Tryz.sizeOf4
  v4 := Tryz.zeroValue4
  i4 := by kernel_rfl
  t9 := Tryz.underlying9
  a9 := Tryz.isAgg9
  z9 := Tryz.sizeOf9
  v9 := Tryz.zeroValue9
  i9 := by kernel_rfl
  t21 := Tryz.underlying21
  a21 := Tryz.isAgg21
  z21 := Tryz.sizeOf21
  v21 := Tryz.zeroValue21
  i21 := by kernel_rfl
  t23 := Tryz.underlying84
  a23 := Tryz.isAgg84
  z23 := Tryz.sizeOf84
  v23 := Tryz.zeroValue84
  i23 := by kernel_rfl }
def Tryz.laysGw17_ren : Go.Shelf.Ren := ⟨fun | 17 => 35 | 15 => 61 | 20 => 89 | n => n, fun | 9 => 9 | 23 => 84 | 4 => 4 | 3 => 3 | 0 => 0 | 21 => 21 | n => n, fun | n => n⟩
theorem Tryz.laysGw17 : Go.Proofs.LaysGw.n17 Tryz.prog Tryz.laysGw17_ren := {
  mixed := by kernel_rfl
  f15 := Tryz.func61.trans (congrArg some (by kernel_rfl))
  f17 := Tryz.func35.trans (congrArg some (by kernel_rfl))
  f20 := Tryz.func89.trans (congrArg some (by kernel_rfl))
  t0 := Tryz.underlying0
  a0 := Tryz.isAgg0
  z0 := Tryz.sizeOf0
  v0 := Tryz.zeroValue0
  i0 := by kernel_rfl
  t3 := Tryz.underlying3
  a3 := Tryz.isAgg3
  z3 := Tryz.sizeOf3
  v3 := Tryz.zeroValue3
  i3 := by kernel_rfl
  t4 := Tryz.underlying4
  a4 := Tryz.isAgg4
  z4 := Tryz.sizeOf4
  v4 := Tryz.zeroValue4
  i4 := by kernel_rfl
  t9 := Tryz.underlying9
  a9 := Tryz.isAgg9
  z9 := Tryz.sizeOf9
  v9 := Tryz.zeroValue9
  i9 := by kernel_rfl
  t21 := Tryz.underlying21
  a21 := Tryz.isAgg21
  z21 := Tryz.sizeOf21
  v21 := Tryz.zeroValue21
  i21 := by kernel_rfl
  t23 := Tryz.underlying84
  a23 := Tryz.isAgg84
  z23 := Tryz.sizeOf84
  v23 := Tryz.zeroValue84
  i23 := by kernel_rfl }
def Tryz.lays206_ren : Go.Shelf.Ren := ⟨fun | 206 => 120 | n => n, fun | 9 => 9 | 4 => 4 | 3 => 3 | n => n, fun | n => n⟩
theorem Tryz.lays206 : Go.Proofs.Lays.n206 Tryz.prog Tryz.lays206_ren := {
  mixed := by kernel_rfl
  f206 := Tryz.func120.trans (congrArg some (by kernel_rfl))
  t3 := Tryz.underlying3
  a3 := Tryz.isAgg3
  z3 := Tryz.sizeOf3
  v3 := Tryz.zeroValue3
  t4 := Tryz.underlying4
  a4 := Tryz.isAgg4
  z4 := Tryz.sizeOf4
  v4 := Tryz.zeroValue4
  t9 := Tryz.underlying9
  a9 := Tryz.isAgg9
  z9 := Tryz.sizeOf9
  v9 := Tryz.zeroValue9 }
open Go.RowKit Go.Lib in
theorem Tryz.stringslite_HasPrefix (s p : ByteArray) (w : World) :
    Calls Tryz.prog 120 #[.string s, .string p] w fun e w' => e = .returned (.bool (Lib.hasPrefix s.data.toList p.data.toList)) ∧ w' = w := Any.stringslite_HasPrefix Tryz.lays206 s p w
def Tryz.lays99_ren : Go.Shelf.Ren := ⟨fun | 99 => 99 | 206 => 120 | n => n, fun | 9 => 9 | 4 => 4 | 3 => 3 | n => n, fun | n => n⟩
theorem Tryz.lays99 : Go.Proofs.Lays.n99 Tryz.prog Tryz.lays99_ren := {
  mixed := by kernel_rfl
  f99 := Tryz.func99.trans (congrArg some (by kernel_rfl))
  f206 := Tryz.func120.trans (congrArg some (by kernel_rfl))
  t3 := Tryz.underlying3
  a3 := Tryz.isAgg3
  z3 := Tryz.sizeOf3
  v3 := Tryz.zeroValue3
  t4 := Tryz.underlying4
  a4 := Tryz.isAgg4
  z4 := Tryz.sizeOf4
  v4 := Tryz.zeroValue4
  t9 := Tryz.underlying9
  a9 := Tryz.isAgg9
  z9 := Tryz.sizeOf9
  v9 := Tryz.zeroValue9 }
open Go.RowKit Go.Lib in
theorem Tryz.strings_HasPrefix (s p : ByteArray) (w : World) :
    Calls Tryz.prog 99 #[.string s, .string p] w fun e w' => e = .returned (.bool (Lib.hasPrefix s.data.toList p.data.toList)) ∧ w' = w := Any.strings_HasPrefix Tryz.lays99 s p w
def Tryz.lays146_ren : Go.Shelf.Ren := ⟨fun | 146 => 34 | 221 => 60 | 268 => 86 | 138 => 87 | 143 => 88 | 195 => 114 | 197 => 91 | 218 => 115 | 219 => 116 | 260 => 117 | 217 => 135 | 225 => 136 | 224 => 137 | 267 => 138 | 266 => 151 | 314 => 152 | n => n, fun | 9 => 9 | 31 => 23 | 3 => 3 | 4 => 4 | 0 => 0 | 105 => 153 | 21 => 21 | 5 => 5 | 46 => 180 | 119 => 190 | 139 => 199 | 138 => 198 | 146 => 216 | 51 => 135 | n => n, fun | 1 => 1 | 3 => 2 | 4 => 3 | n => n⟩
theorem Tryz.lays146 : Go.Proofs.Lays.n146 Tryz.prog Tryz.lays146_ren := {
  mixed := by kernel_rfl
  f138 := Tryz.func87.trans (congrArg some (by kernel_rfl))
  f143 := Tryz.func88.trans (congrArg some (by kernel_rfl))
  f146 := Tryz.func34.trans (congrArg some (by kernel_rfl))
  f195 := Tryz.func114.trans (congrArg some (by kernel_rfl))
  f197 := Tryz.func91.trans (congrArg some (by kernel_rfl))
  f217 := Tryz.func135.trans (congrArg some (by kernel_rfl))
  f218 := Tryz.func115.trans (congrArg some (by kernel_rfl))
  f219 := Tryz.func116.trans (congrArg some (by kernel_rfl))
  f221 := Tryz.func60.trans (congrArg some (by kernel_rfl))
  f224 := Tryz.func137.trans (congrArg some (by kernel_rfl))
  f225 := Tryz.func136.trans (congrArg some (by kernel_rfl))
  f260 := Tryz.func117.trans (congrArg some (by kernel_rfl))
  f266 := Tryz.func151.trans (congrArg some (by kernel_rfl))
  f267 := Tryz.func138.trans (congrArg some (by kernel_rfl))
  f268 := Tryz.func86.trans (congrArg some (by kernel_rfl))
  f314 := Tryz.func152.trans (congrArg some (by kernel_rfl))
  t0 := Tryz.underlying0
  a0 := Tryz.isAgg0
  z0 := Tryz.sizeOf0
  v0 := Tryz.zeroValue0
  t3 := Tryz.underlying3
  a3 := Tryz.isAgg3
  z3 := Tryz.sizeOf3
  v3 := Tryz.zeroValue3
  t4 := Tryz.underlying4
  a4 := Tryz.isAgg4
  z4 := Tryz.sizeOf4
  v4 := Tryz.zeroValue4
  t5 := Tryz.underlying5
  a5 := Tryz.isAgg5
  z5 := Tryz.sizeOf5
  v5 := Tryz.zeroValue5
  t9 := Tryz.underlying9
  a9 := Tryz.isAgg9
  z9 := Tryz.sizeOf9
  v9 := Tryz.zeroValue9
  t21 := Tryz.underlying21
  a21 := Tryz.isAgg21
  z21 := Tryz.sizeOf21
  v21 := Tryz.zeroValue21
  t31 := Tryz.underlying23
  a31 := Tryz.isAgg23
  z31 := Tryz.sizeOf23
  v31 := Tryz.zeroValue23
  t46 := Tryz.underlying180
  a46 := Tryz.isAgg180
  z46 := Tryz.sizeOf180
  v46 := Tryz.zeroValue180
  t51 := Tryz.underlying135
  a51 := Tryz.isAgg135
  z51 := Tryz.sizeOf135
  v51 := Tryz.zeroValue135
  t105 := Tryz.underlying153
  a105 := Tryz.isAgg153
  z105 := Tryz.sizeOf153
  v105 := Tryz.zeroValue153
  t119 := Tryz.underlying190
  a119 := Tryz.isAgg190
  z119 := Tryz.sizeOf190
  t138 := Tryz.underlying198
  a138 := Tryz.isAgg198
  z138 := Tryz.sizeOf198
  v138 := Tryz.zeroValue198
  t139 := Tryz.underlying199
  a139 := Tryz.isAgg199
  z139 := Tryz.sizeOf199
  v139 := Tryz.zeroValue199
  t146 := Tryz.underlying216
  a146 := Tryz.isAgg216
  z146 := Tryz.sizeOf216
  v146 := Tryz.zeroValue216
  g1 := by kernel_rfl
  g3 := by kernel_rfl
  g4 := by kernel_rfl }
open Go.RowKit Go.Lib in
theorem Tryz.strings_Split (s sep : ByteArray) (m : Int) (w : World) (hs : s.size < 4294967281) (hm : w.cell? ⟨1, 0, none⟩ = some (.int .i64 m)) (h1 : 1 ≤ sep.size) :
    Calls Tryz.prog 34 #[.string s, .string sep] w fun e w' =>
      e = .returned (.slice (some ⟨w.heap.size, 0, none⟩) (Lib.countB s sep + 1) (Lib.countB s sep + 1)) ∧ w' = w.alloc (.cells ((Lib.splitB sep 0 (Lib.countB s sep) s).map Value.string).toArray 9) := Any.strings_Split Tryz.lays146 (by kernel_rfl) s sep m w hs hm h1
def Tryz.lays151_ren : Go.Shelf.Ren := ⟨fun | 151 => 92 | 152 => 118 | 137 => 139 | 119 => 140 | 224 => 137 | 225 => 136 | 217 => 135 | 266 => 151 | n => n, fun | 9 => 9 | 21 => 21 | 4 => 4 | 3 => 3 | 5 => 5 | 0 => 0 | 46 => 180 | n => n, fun | n => n⟩
theorem Tryz.lays151 : Go.Proofs.Lays.n151 Tryz.prog Tryz.lays151_ren := {
  mixed := by kernel_rfl
  f119 := Tryz.func140.trans (congrArg some (by kernel_rfl))
  f137 := Tryz.func139.trans (congrArg some (by kernel_rfl))
  f151 := Tryz.func92.trans (congrArg some (by kernel_rfl))
  f152 := Tryz.func118.trans (congrArg some (by kernel_rfl))
  f217 := Tryz.func135.trans (congrArg some (by kernel_rfl))
  f224 := Tryz.func137.trans (congrArg some (by kernel_rfl))
  f225 := Tryz.func136.trans (congrArg some (by kernel_rfl))
  f266 := Tryz.func151.trans (congrArg some (by kernel_rfl))
  t0 := Tryz.underlying0
  a0 := Tryz.isAgg0
  z0 := Tryz.sizeOf0
  v0 := Tryz.zeroValue0
  t3 := Tryz.underlying3
  a3 := Tryz.isAgg3
  z3 := Tryz.sizeOf3
  v3 := Tryz.zeroValue3
  t4 := Tryz.underlying4
  a4 := Tryz.isAgg4
  z4 := Tryz.sizeOf4
  v4 := Tryz.zeroValue4
  t5 := Tryz.underlying5
  a5 := Tryz.isAgg5
  z5 := Tryz.sizeOf5
  v5 := Tryz.zeroValue5
  t9 := Tryz.underlying9
  a9 := Tryz.isAgg9
  z9 := Tryz.sizeOf9
  v9 := Tryz.zeroValue9
  t21 := Tryz.underlying21
  a21 := Tryz.isAgg21
  z21 := Tryz.sizeOf21
  v21 := Tryz.zeroValue21
  t46 := Tryz.underlying180
  a46 := Tryz.isAgg180
  z46 := Tryz.sizeOf180
  v46 := Tryz.zeroValue180 }
open Go.RowKit Go.Lib in
theorem Tryz.strings_ContainsRune_ascii (s : ByteArray) (r : Int) (w : World) (h0 : 0 ≤ r) (h1 : r < 128) :
    Calls Tryz.prog 92 #[.string s, .int .i32 r] w fun e w' => e = .returned (.bool (decide (0 ≤ Lib.indexByte s.data.toList r.toNat.toUInt8))) ∧ w' = w := Any.strings_ContainsRune_ascii Tryz.lays151 s r w h0 h1
open Go.RowKit Go.Lib in
theorem Tryz.strings_IndexFunc_grows (g : Nat) (lb : Array Value) (eg : ∀ args w, (callFunc g args).run Tryz.prog w = .ok (.enter g args) w) (p : Nat → Bool) (s : ByteArray) (w : World) (hp : PredGrows Tryz.prog g lb p w) :
    Calls Tryz.prog 61 #[.string s, .func (.func g) #[] lb] w fun e w' => e = .returned (.int .i64 (Lib.idxFunc p true s)) ∧ Below w.heap.size w w' := Any.strings_IndexFunc_grows Tryz.laysGw15 g lb eg p s w hp
open Go.RowKit Go.Lib in
theorem Tryz.strings_ContainsFunc_grows (g : Nat) (lb : Array Value) (eg : ∀ args w, (callFunc g args).run Tryz.prog w = .ok (.enter g args) w) (p : Nat → Bool) (s : ByteArray) (w : World) (hp : PredGrows Tryz.prog g lb p w) :
    Calls Tryz.prog 35 #[.string s, .func (.func g) #[] lb] w fun e w' => e = .returned (.bool (decide (0 ≤ Lib.idxFunc p true s))) ∧ Below w.heap.size w w' := Any.strings_ContainsFunc_grows Tryz.laysGw17 g lb eg p s w hp
def Tryz.lays109_ren : Go.Shelf.Ren := ⟨fun | 109 => 100 | n => n, fun | 31 => 23 | 9 => 9 | 3 => 3 | 0 => 0 | 4 => 4 | n => n, fun | n => n⟩
theorem Tryz.lays109 : Go.Proofs.Lays.n109 Tryz.prog Tryz.lays109_ren := {
  mixed := by kernel_rfl
  f109 := Tryz.func100.trans (congrArg some (by kernel_rfl))
  t0 := Tryz.underlying0
  a0 := Tryz.isAgg0
  z0 := Tryz.sizeOf0
  v0 := Tryz.zeroValue0
  t3 := Tryz.underlying3
  a3 := Tryz.isAgg3
  z3 := Tryz.sizeOf3
  v3 := Tryz.zeroValue3
  t4 := Tryz.underlying4
  a4 := Tryz.isAgg4
  z4 := Tryz.sizeOf4
  v4 := Tryz.zeroValue4
  t9 := Tryz.underlying9
  a9 := Tryz.isAgg9
  z9 := Tryz.sizeOf9
  v9 := Tryz.zeroValue9
  t31 := Tryz.underlying23
  a31 := Tryz.isAgg23
  z31 := Tryz.sizeOf23
  v31 := Tryz.zeroValue23 }
open Go.Lib in
theorem Tryz.slices_Index_string (b off n c : Nat) (zs : List ByteArray) (x : ByteArray) (w : World) (hz : n ≤ zs.length) (hbig : n ≤ 9223372036854775807) (hc : ∀ j, j < zs.length → w.cell? ⟨b, off + j, none⟩ = some (.string (zs.getD j ByteArray.empty))) :
    Calls Tryz.prog 100 #[.slice (some ⟨b, off, none⟩) n c, .string x] w fun e w' => e = .returned (.int .i64 (Lib.idxOfS (zs.take n) x)) ∧ w' = w := Any.slices_Index_string Tryz.lays109 b off n c zs x w hz hbig hc
open Go.Lib in
theorem Tryz.slices_Index_string_empty (a : Option Addr) (c : Nat) (x : ByteArray) (w : World) :
    Calls Tryz.prog 100 #[.slice a 0 c, .string x] w fun e w' => e = .returned (.int .i64 (Lib.idxOfS [] x)) ∧ w' = w := Any.slices_Index_string_empty Tryz.lays109 a c x w
def Tryz.lays110_ren : Go.Shelf.Ren := ⟨fun | 110 => 73 | 109 => 100 | n => n, fun | 31 => 23 | 9 => 9 | 4 => 4 | 3 => 3 | 0 => 0 | n => n, fun | n => n⟩
theorem Tryz.lays110 : Go.Proofs.Lays.n110 Tryz.prog Tryz.lays110_ren := {
  mixed := by kernel_rfl
  f109 := Tryz.func100.trans (congrArg some (by kernel_rfl))
  f110 := Tryz.func73.trans (congrArg some (by kernel_rfl))
  t0 := Tryz.underlying0
  a0 := Tryz.isAgg0
  z0 := Tryz.sizeOf0
  v0 := Tryz.zeroValue0
  t3 := Tryz.underlying3
  a3 := Tryz.isAgg3
  z3 := Tryz.sizeOf3
  v3 := Tryz.zeroValue3
  t4 := Tryz.underlying4
  a4 := Tryz.isAgg4
  z4 := Tryz.sizeOf4
  v4 := Tryz.zeroValue4
  t9 := Tryz.underlying9
  a9 := Tryz.isAgg9
  z9 := Tryz.sizeOf9
  v9 := Tryz.zeroValue9
  t31 := Tryz.underlying23
  a31 := Tryz.isAgg23
  z31 := Tryz.sizeOf23
  v31 := Tryz.zeroValue23 }
open Go.Lib in
theorem Tryz.slices_Contains_string (b off n c : Nat) (zs : List ByteArray) (x : ByteArray) (w : World) (hz : n ≤ zs.length) (hbig : n ≤ 9223372036854775807) (hc : ∀ j, j < zs.length → w.cell? ⟨b, off + j, none⟩ = some (.string (zs.getD j ByteArray.empty))) :
    Calls Tryz.prog 73 #[.slice (some ⟨b, off, none⟩) n c, .string x] w fun e w' => e = .returned (.bool (Lib.containsS (zs.take n) x)) ∧ w' = w := Any.slices_Contains_string Tryz.lays110 b off n c zs x w hz hbig hc
end Go.Proofs
end
section
set_option linter.unusedVariables false
namespace Go.Proofs.YtbjekebkgidhaaaGreatDoor
open Go.RowKit
def MaxCell (w : World) : Prop := ∃ m, w.cell? ⟨1, 0, none⟩ = some (.int .i64 m)
theorem MaxCell.below {w w' : World} (h : MaxCell w) (hb : Below w.heap.size w w') : MaxCell w' := by
  obtain ⟨m, hm⟩ := h
  exact ⟨m, (hb.cell (p := ⟨1, 0, none⟩) (World.block_lt_of_cell? w ⟨1, 0, none⟩ hm)).trans hm⟩
theorem MaxCell.of_shaped {w : World} (h : w.ShapedOpen Tryz.prog) : MaxCell w := Go.Proofs.cell_of_shapedOpen_int (zero := #[.int .i64 0]) (t := 3) h (of_decide_eq_true (by kernel_rfl)) (by kernel_rfl) rfl (by kernel_rfl) (by kernel_rfl) Tryz.underlying3
end Go.Proofs.YtbjekebkgidhaaaGreatDoor
end
section
set_option linter.unusedVariables false
namespace Go.Proofs.YtbjekebkgidhaaaGreatDoor
open Go.RowKit Go.Lib Go.Joins
def Tab (w : World) : Prop := Lib.TabIs Tryz.prog w "internal/strconv.uint64pow10" .u64 Lib.pow10Tab
theorem Tab.below {w w' : World} (h : Tab w) (hb : Below w.heap.size w w') : Tab w' := tab_stays (g := 0) (by kernel_rfl) h hb (Nat.le_refl _)
theorem Tab.of_laid {W : World} (h : laidMetH Tryz.prog Rows.printAgainRow.laid W) : Tab W := by
  have h1 := h.filter (fun x => x.1 == "internal/strconv.uint64pow10")
  have e : Rows.printAgainRow.laid.filter (fun x => x.1 == "internal/strconv.uint64pow10") = [("internal/strconv.uint64pow10", Lib.tabData .u64 Lib.pow10Tab)] := by rfl
  rw [e, MakeChecks.laidMetH_plain _ _ _ (by kernel_rfl)] at h1
  exact Lib.tabIs_of_head (g := 0) (by kernel_rfl) (by kernel_rfl) Tryz.underlying177 Tryz.underlying163 (by kernel_rfl) (by kernel_rfl) h1
end Go.Proofs.YtbjekebkgidhaaaGreatDoor
end
section
set_option linter.unusedSimpArgs false
set_option linter.unusedVariables false
namespace Go.Proofs.YtbjekebkgidhaaaGreatDoor.U
open Go.RowKit Go.Proofs.YtbjekebkgidhaaaGreatDoorW.PrintWords
abbrev B (l : List UInt8) : ByteArray := ⟨l.toArray⟩
theorem toList_B (l : List UInt8) : (B l).toList = l := by rw [ByteArray.toList_eq]
theorem data_B (l : List UInt8) : (B l).data.toList = l := rfl
theorem size_B (l : List UInt8) : (B l).size = l.length := by simp [ByteArray.size]
theorem B_surj (s : ByteArray) : ∃ l, s = B l := ⟨s.data.toList, by cases s; simp [B]⟩
theorem B_of (s : ByteArray) : s = B s.data.toList := by cases s; simp [B]
theorem B_inj {a b : List UInt8} (h : B a = B b) : a = b := by
  have := congrArg (fun s => s.data.toList) h
  simpa using this
theorem B_append (a b : List UInt8) : B a ++ B b = B (a ++ b) := by
  apply ByteArray.ext
  rw [ByteArray.data_append]
  simp [B]
theorem extract_B (l : List UInt8) (a b : Nat) : (B l).extract a b = B ((l.take b).drop a) := by
  apply ByteArray.ext
  rw [ByteArray.data_extract]
  simp [B, List.extract_eq_take_drop, List.drop_take]
theorem toNat_eq (c : UInt8) (n : Nat) (hn : n < 256) : ((c.toNat : Int) = (n : Int)) ↔ c = UInt8.ofNat n := by
  constructor
  · intro h
    apply UInt8.toNat_inj.1
    have : c.toNat = n := by omega
    rw [this]; simp [Nat.mod_eq_of_lt hn]
  · rintro rfl
    simp [Nat.mod_eq_of_lt hn]
theorem wrap_id (x : Int) (h0 : -9223372036854775808 ≤ x) (h1 : x ≤ 9223372036854775807) : wrap64 x = x := by
  unfold wrap64; omega
theorem wrap_succ (i : Nat) (h : i < 4611686018427387904) : wrap64 ((i : Int) + 1) = ((i + 1 : Nat) : Int) := by
  rw [wrap_id _ (by omega) (by omega)]; rfl
theorem byte_ne {c d : UInt8} (h : c ≠ d) : ¬ (c.toNat : Int) = (d.toNat : Int) := fun e => h (UInt8.toNat_inj.1 (by omega))
theorem Ev.some {α : Type} {g : Nat → Option α} {r : α} (h : ∀ k, g k = Option.some r) : Ev g r := ⟨0, fun k _ => h k⟩
end Go.Proofs.YtbjekebkgidhaaaGreatDoor.U
end
section
set_option linter.unusedSimpArgs false
set_option linter.unusedVariables false
namespace Go.Proofs.YtbjekebkgidhaaaGreatDoor.Idx
open Go.RowKit Go.Lib Go.Proofs.YtbjekebkgidhaaaGreatDoor.U
theorem decode_at (s : ByteArray) (pos : Nat) (h : pos < s.size) : ((s[pos]'h).toNat < 128 → Utf8.decode s pos = ((s[pos]'h).toNat, 1)) ∧ (128 ≤ (s[pos]'h).toNat → 128 ≤ (Utf8.decode s pos).1) := by
  have hg : (s.get! pos).toNat = (s[pos]'h).toNat := by
    have : s.get! pos = s[pos]'h := by
      show s.data[pos]! = s.data[pos]'h
      rw [getElem!_pos s.data pos h]
    rw [this]
  have hlt := (s[pos]'h).toNat_lt
  constructor
  · intro h1
    unfold Utf8.decode
    simp only [Nat.add_zero, hg]
    rw [if_pos h1]
  · intro h1
    unfold Utf8.decode
    simp only [Nat.add_zero, hg]
    rw [if_neg (by omega)]
    split
    · split
      · assumption
      · show 128 ≤ Utf8.runeError; decide
    · split
      · split
        · rename_i h2; simp only [Bool.and_eq_true, decide_eq_true_eq] at h2; omega
        · show 128 ≤ Utf8.runeError; decide
      · split
        · split
          · rename_i h2; simp only [Bool.and_eq_true, decide_eq_true_eq] at h2; omega
          · show 128 ≤ Utf8.runeError; decide
        · show 128 ≤ Utf8.runeError; decide
theorem idx_from (q : Nat → Bool) (hq : ∀ c, 128 ≤ c → q c = false) (r : List UInt8) : ∀ (a : List UInt8) (f : Nat), r.length ≤ f →
    Lib.idxFuncFrom (fun c => !q c) true (B (a ++ r)) f a.length = if r.all (fun b => q b.toNat) then -1 else ((a.length + (r.takeWhile (fun b => q b.toNat)).length : Nat) : Int) := by
  induction r with
  | nil =>
    intro a f hf
    cases f with
    | zero => rfl
    | succ f =>
      unfold Lib.idxFuncFrom
      rw [if_neg (by rw [size_B]; simp)]; rfl
  | cons b r ih =>
    intro a f hf
    cases f with
    | zero => simp at hf
    | succ f =>
      have hp : a.length < (B (a ++ b :: r)).size := by rw [size_B]; simp
      have hb : (B (a ++ b :: r))[a.length]'hp = b := by
        show (a ++ b :: r).toArray[a.length]'_ = b
        simp
      have hd := decode_at (B (a ++ b :: r)) a.length hp
      rw [hb] at hd
      unfold Lib.idxFuncFrom
      rw [if_pos hp]
      by_cases hqb : q b.toNat = true
      · have hlt : b.toNat < 128 := by
          refine Nat.lt_of_not_le fun h2 => ?_
          rw [hq _ h2] at hqb; cases hqb
        rw [hd.1 hlt]
        have := ih (a ++ [b]) f (by simpa using hf)
        rw [List.length_append, List.length_singleton, List.append_assoc] at this
        simp only [hqb, Bool.not_true, Bool.false_eq_true, if_false, List.all_cons, Bool.true_and, List.takeWhile_cons, if_true, List.length_cons, beq_iff_eq]
        rw [show [b] ++ r = b :: r from rfl] at this
        rw [this]
        split
        · rfl
        · congr 1; omega
      · have hqb' : q b.toNat = false := by simpa using hqb
        have hqd : q (Utf8.decode (B (a ++ b :: r)) a.length).1 = false := by
          by_cases hlt : b.toNat < 128
          · rw [hd.1 hlt]; exact hqb'
          · exact hq _ (hd.2 (by omega))
        simp only [hqd, hqb', Bool.not_false, if_true, List.all_cons, Bool.false_and, Bool.false_eq_true, if_false, List.takeWhile_cons, List.length_nil, Nat.add_zero, BEq.rfl]
theorem idx_func (q : Nat → Bool) (hq : ∀ c, 128 ≤ c → q c = false) (l : List UInt8) :
    Lib.idxFunc (fun c => !q c) true (B l) = if l.all (fun b => q b.toNat) then -1 else ((l.takeWhile (fun b => q b.toNat)).length : Int) := by
  have := idx_from q hq l [] (B l).size (by rw [size_B]; exact Nat.le_refl _)
  simp only [List.nil_append, List.length_nil, Nat.zero_add] at this
  exact this
end Go.Proofs.YtbjekebkgidhaaaGreatDoor.Idx
end
section
set_option linter.unusedSimpArgs false
set_option linter.unusedVariables false
namespace Go.Proofs.YtbjekebkgidhaaaGreatDoor.Sc
open Go.RowKit Go.Lib Go.Shelf Go.Proofs.YtbjekebkgidhaaaGreatDoorW.PrintWords Go.Proofs.YtbjekebkgidhaaaGreatDoor.U Go.Proofs.YtbjekebkgidhaaaGreatDoor.Idx
def shortR (c : Nat) : Bool := (decide (97 ≤ c) && decide (c ≤ 122)) || (decide (65 ≤ c) && decide (c ≤ 90)) || (decide (48 ≤ c) && decide (c ≤ 57)) || c == 95 || c == 45
theorem shortR_beyond (c : Nat) (h : 123 ≤ c) : shortR c = false := by
  have h2 : ¬ c ≤ 122 := by omega
  have h3 : ¬ c ≤ 90 := by omega
  have h4 : ¬ c ≤ 57 := by omega
  have h5 : ¬ c = 95 := by omega
  have h6 : ¬ c = 45 := by omega
  simp [shortR, h2, h3, h4, h5, h6]
set_option maxRecDepth 100000 in
set_option maxHeartbeats 4000000 in
theorem short_any (c : Nat) (w : World) :
    Calls Tryz.prog 98 #[.int .i32 (c : Int)] w fun e w' => e = .returned (.bool (shortR c)) ∧ w = w' := by
  have fin : ∀ b, shortR c = b → Calls Tryz.prog 98 #[.int .i32 (c : Int)] w (fun e w' => e = .returned (.bool b) ∧ w = w') → Calls Tryz.prog 98 #[.int .i32 (c : Int)] w fun e w' => e = .returned (.bool (shortR c)) ∧ w = w' := fun b hb h => by rw [hb]; exact h
  rcases (show ((97 ≤ c ∧ c ≤ 122) ∨ (65 ≤ c ∧ c ≤ 90) ∨ (48 ≤ c ∧ c ≤ 57)) ∨ c = 95 ∨ c = 45 ∨ ((c < 48 ∧ c ≠ 45) ∨ (57 < c ∧ c < 65) ∨ (90 < c ∧ c < 97 ∧ c ≠ 95) ∨ 122 < c) from by omega) with h | rfl | rfl | h
  · have e : shortR c = true := by
      unfold shortR
      rcases h with ⟨a, b⟩ | ⟨a, b⟩ | ⟨a, b⟩ <;> simp [a, b]
    refine fin true e ?_
    rcases h with ⟨a, b⟩ | ⟨a, b⟩ | ⟨a, b⟩
    all_goals
      go_enter Tryz.func98, Tryz.ntmps98
      go_wp2_with fail
      go_ret
      exact ⟨rfl, rfl⟩
  · refine fin true rfl ?_
    go_enter Tryz.func98, Tryz.ntmps98
    go_wp2_with fail
    go_ret
    exact ⟨rfl, rfl⟩
  · refine fin true rfl ?_
    go_enter Tryz.func98, Tryz.ntmps98
    go_wp2_with fail
    go_ret
    exact ⟨rfl, rfl⟩
  · have n95 : c ≠ 95 := by omega
    have n45 : c ≠ 45 := by omega
    have e : shortR c = false := by
      unfold shortR
      have h1 : ¬ (97 ≤ c ∧ c ≤ 122) := by omega
      have h2 : ¬ (65 ≤ c ∧ c ≤ 90) := by omega
      have h3 : ¬ (48 ≤ c ∧ c ≤ 57) := by omega
      rw [← Bool.decide_and, ← Bool.decide_and, ← Bool.decide_and, decide_eq_false h1, decide_eq_false h2, decide_eq_false h3]
      simp [n95, n45]
    refine fin false e ?_
    have b95 : ((c : Int) == 95) = false := by rw [beq_eq_false_iff_ne]; omega
    have b45 : ((c : Int) == 45) = false := by rw [beq_eq_false_iff_ne]; omega
    rcases h with ⟨a, _⟩ | ⟨a, b⟩ | ⟨a, b, _⟩ | a
    · have d97 : decide (97 ≤ (c : Int)) = false := by rw [decide_eq_false_iff_not]; omega
      have d65 : decide (65 ≤ (c : Int)) = false := by rw [decide_eq_false_iff_not]; omega
      have d48 : decide (48 ≤ (c : Int)) = false := by rw [decide_eq_false_iff_not]; omega
      go_enter Tryz.func98, Tryz.ntmps98
      go_wp2_with fail
      go_ret
      exact ⟨rfl, rfl⟩
    · have d97 : decide (97 ≤ (c : Int)) = false := by rw [decide_eq_false_iff_not]; omega
      have d65 : decide (65 ≤ (c : Int)) = false := by rw [decide_eq_false_iff_not]; omega
      have d48 : decide (48 ≤ (c : Int)) = true := by rw [decide_eq_true_iff]; omega
      have d57 : decide ((c : Int) ≤ 57) = false := by rw [decide_eq_false_iff_not]; omega
      go_enter Tryz.func98, Tryz.ntmps98
      go_wp2_with fail
      go_ret
      exact ⟨rfl, rfl⟩
    · have d97 : decide (97 ≤ (c : Int)) = false := by rw [decide_eq_false_iff_not]; omega
      have d65 : decide (65 ≤ (c : Int)) = true := by rw [decide_eq_true_iff]; omega
      have d90 : decide ((c : Int) ≤ 90) = false := by rw [decide_eq_false_iff_not]; omega
      have d48 : decide (48 ≤ (c : Int)) = true := by rw [decide_eq_true_iff]; omega
      have d57 : decide ((c : Int) ≤ 57) = false := by rw [decide_eq_false_iff_not]; omega
      go_enter Tryz.func98, Tryz.ntmps98
      go_wp2_with fail
      go_ret
      exact ⟨rfl, rfl⟩
    · have d97 : decide (97 ≤ (c : Int)) = true := by rw [decide_eq_true_iff]; omega
      have d122 : decide ((c : Int) ≤ 122) = false := by rw [decide_eq_false_iff_not]; omega
      have d65 : decide (65 ≤ (c : Int)) = true := by rw [decide_eq_true_iff]; omega
      have d90 : decide ((c : Int) ≤ 90) = false := by rw [decide_eq_false_iff_not]; omega
      have d48 : decide (48 ≤ (c : Int)) = true := by rw [decide_eq_true_iff]; omega
      have d57 : decide ((c : Int) ≤ 57) = false := by rw [decide_eq_false_iff_not]; omega
      go_enter Tryz.func98, Tryz.ntmps98
      go_wp2_with fail
      go_ret
      exact ⟨rfl, rfl⟩
def nameR (c : Nat) : Bool := shortR c || c == 46
theorem nameR_beyond (c : Nat) (h : 128 ≤ c) : nameR c = false := by
  rw [nameR, shortR_beyond c (by omega)]
  simp; omega
theorem shortR_beyond' (c : Nat) (h : 128 ≤ c) : shortR c = false := shortR_beyond c (by omega)
set_option maxRecDepth 100000 in
set_option maxHeartbeats 2000000 in
theorem notname_grows (w : World) : PredGrows Tryz.prog 97 #[] (fun c => !nameR c) w := by
  intro W x hx hb
  cases hs : shortR x with
  | true =>
    have e : (!nameR x) = false := by simp [nameR, hs]
    show Calls Tryz.prog _ _ W fun e w' => e = .returned (.bool (!nameR x)) ∧ Below W.heap.size W w'
    rw [e]
    go_enter Tryz.func97, Tryz.ntmps97
    go_wp2_with fail
    refine (short_any x _).mono ?_
    rw [hs]
    rintro e w' ⟨rfl, rfl⟩
    go_wp2_with fail
    go_ret
    exact ⟨rfl, Below.refl _ _⟩
  | false =>
    cases h46 : (x == 46) with
    | true =>
      have e : (!nameR x) = false := by simp [nameR, hs, h46]
      show Calls Tryz.prog _ _ W fun e w' => e = .returned (.bool (!nameR x)) ∧ Below W.heap.size W w'
      have h' : ((x : Int) != 46) = false := by
        have : x = 46 := by simpa using h46
        subst this; rfl
      rw [e]
      go_enter Tryz.func97, Tryz.ntmps97
      go_wp2_with fail
      refine (short_any x _).mono ?_
      rw [hs]
      rintro e w' ⟨rfl, rfl⟩
      go_wp2_with fail
      go_ret
      exact ⟨rfl, Below.refl _ _⟩
    | false =>
      have e : (!nameR x) = true := by simp [nameR, hs, h46]
      show Calls Tryz.prog _ _ W fun e w' => e = .returned (.bool (!nameR x)) ∧ Below W.heap.size W w'
      have h' : ((x : Int) != 46) = true := by
        have : x ≠ 46 := by simpa using h46
        rw [bne_iff_ne]; omega
      rw [e]
      go_enter Tryz.func97, Tryz.ntmps97
      go_wp2_with fail
      refine (short_any x _).mono ?_
      rw [hs]
      rintro e w' ⟨rfl, rfl⟩
      go_wp2_with fail
      go_ret
      exact ⟨rfl, Below.refl _ _⟩
set_option maxRecDepth 100000 in
set_option maxHeartbeats 2000000 in
theorem notshort_grows (w : World) : PredGrows Tryz.prog 122 #[] (fun c => !shortR c) w := by
  intro W x hx hb
  go_enter Tryz.func122, Tryz.ntmps122
  go_wp2_with fail
  refine (short_any x _).mono ?_
  rintro e w' ⟨rfl, rfl⟩
  go_wp2_with fail
  go_ret
  exact ⟨rfl, Below.refl _ _⟩
def shortB (b : UInt8) : Bool := shortR b.toNat
def nameB (b : UInt8) : Bool := nameR b.toNat
def nameL (l : List UInt8) : Bool := !l.isEmpty && l.all nameB
set_option maxRecDepth 100000 in
set_option maxHeartbeats 2000000 in
theorem Name_any (l : List UInt8) (w : World) :
    Calls Tryz.prog 69 #[.string (B l)] w fun e w' => e = .returned (.bool (nameL l)) ∧ Below w.heap.size w w' := by
  cases l with
  | nil =>
    go_enter Tryz.func69, Tryz.ntmps69
    go_wp2_with fail
    go_ret
    exact ⟨rfl, Below.refl _ _⟩
  | cons b l =>
    have hne : ((B (b :: l)).toList != []) = true := by rw [toList_B]; rfl
    have hne2 : (B (b :: l)).toList.isEmpty = false := by rw [toList_B]; rfl
    have hC := Lib.hid (Tryz.strings_ContainsFunc_grows 97 #[] (fun args w => by kernel_rfl) (fun c => !nameR c) (B (b :: l)) w (notname_grows w))
    have hi := idx_func nameR nameR_beyond (b :: l)
    have hd : decide ((0 : Int) ≤ Lib.idxFunc (fun c => !nameR c) true (B (b :: l))) = !nameL (b :: l) := by
      rw [hi, nameL]
      show _ = !(true && List.all (b :: l) (fun b => nameR b.toNat))
      cases (b :: l).all (fun b => nameR b.toNat) with
      | true => rfl
      | false => simp <;> omega
    rw [hd] at hC
    clear hi hd
    go_enter Tryz.func69, Tryz.ntmps69
    go_wp2_with fail
    refine hC.out.mono ?_
    rintro e w' ⟨rfl, hb⟩
    go_wp2_with fail
    go_ret
    exact ⟨by simp, hb⟩
theorem index_cases (l : List UInt8) (c : UInt8) : (Lib.indexByte l c = -1 ∧ c ∉ l) ∨ ∃ a r, l = a ++ c :: r ∧ c ∉ a ∧ Lib.indexByte l c = (a.length : Int) := by
  induction l with
  | nil => exact .inl ⟨rfl, by simp⟩
  | cons b l ih =>
    by_cases hb : b = c
    · exact .inr ⟨[], l, by simp [hb], by simp, by simp [Lib.indexByte, hb]⟩
    · rcases ih with ⟨h1, h2⟩ | ⟨a, r, rfl, h2, h3⟩
      · exact .inl ⟨by simp [Lib.indexByte, hb, h1], by simp [h2, Ne.symm hb]⟩
      · exact .inr ⟨b :: a, r, by simp, by simp [h2, Ne.symm hb], by simp [Lib.indexByte, hb, h3] <;> omega⟩
def cutL (c : UInt8) : List UInt8 → List UInt8 × List UInt8 × Bool
  | [] => ([], [], false)
  | b :: l => if b = c then ([], l, true) else (b :: (cutL c l).1, (cutL c l).2.1, (cutL c l).2.2)
theorem cutL_none (c : UInt8) (l : List UInt8) (h : c ∉ l) : cutL c l = (l, [], false) := by
  induction l with
  | nil => rfl
  | cons b l ih =>
    have hb : b ≠ c := fun e => h (by simp [e])
    rw [cutL, if_neg hb, ih (fun e => h (by simp [e]))]
theorem cutL_some (c : UInt8) (a r : List UInt8) (h : c ∉ a) : cutL c (a ++ c :: r) = (a, r, true) := by
  induction a with
  | nil => simp [cutL]
  | cons b a ih =>
    have hb : b ≠ c := fun e => h (by simp [e])
    rw [List.cons_append, cutL, if_neg hb, ih (fun e => h (by simp [e]))]
set_option maxRecDepth 100000 in
set_option maxHeartbeats 2000000 in
theorem lcut_any (c : UInt8) (l : List UInt8) (hl : l.length < 4611686018427387904) (w : World) :
    Calls Tryz.prog 96 #[.string (B l), .string (B [c])] w fun e w' => e = .returned (.tuple #[.string (B (cutL c l).1), .string (B (cutL c l).2.1), .bool (cutL c l).2.2]) ∧ Below w.heap.size w w' := by
  have hI := Lib.hid (Tryz.stringslite_Index_one (B l) c w)
  rcases index_cases l c with ⟨h1, h2⟩ | ⟨a, r, rfl, h2, h3⟩
  · rw [data_B, h1] at hI
    rw [cutL_none c l h2]
    go_enter Tryz.func96, Tryz.ntmps96
    go_wp2_with fail
    refine hI.out.mono ?_
    rintro e w' ⟨rfl, rfl⟩
    go_wp2_with fail
    exact bodyPost_ret (v := .tuple #[.string (B l), .string (B []), .bool false]) (by simp [results, Tryz.results96, go_sem]) rfl ⟨rfl, Below.refl _ _⟩
  · rw [data_B, h3] at hI
    rw [cutL_some c a r h2]
    rw [List.length_append, List.length_cons] at hl
    have hs : (B (a ++ c :: r)).size = a.length + (r.length + 1) := by rw [size_B]; simp
    have s1 : (B [c]).size = 1 := rfl
    have hw := Aside0.mk (wrap_succ a.length (by omega))
    have e1 : (B (a ++ c :: r)).extract 0 a.length = B a := by rw [extract_B]; simp
    have e2 : (B (a ++ c :: r)).extract (a.length + 1) (a.length + (r.length + 1)) = B r := by
      rw [extract_B]
      have : a ++ c :: r = (a ++ [c]) ++ r := by simp
      rw [List.take_of_length_le (by simp), this, List.drop_left' (by simp)]
    have a1 : ((a.length : Int) ≤ ((a.length + (r.length + 1) : Nat) : Int)) = True := eq_true (by omega)
    have a2 : (((a.length + 1 : Nat) : Int) ≤ ((a.length + (r.length + 1) : Nat) : Int)) = True := eq_true (by omega)
    go_enter Tryz.func96, Tryz.ntmps96
    go_wp2_with fail
    refine hI.out.mono ?_
    rintro e w' ⟨rfl, rfl⟩
    go_wp2_with fail
    go_region
    go_wp2_with fail
    exact bodyPost_ret (v := .tuple #[.string (B a), .string (B r), .bool true]) (by simp [results, Tryz.results96, go_sem]) rfl ⟨rfl, (Below.refl _ _).drew⟩
set_option maxRecDepth 100000 in
set_option maxHeartbeats 2000000 in
theorem cut_any (c : UInt8) (l : List UInt8) (hl : l.length < 4611686018427387904) (w : World) :
    Calls Tryz.prog 67 #[.string (B l), .string (B [c])] w fun e w' => e = .returned (.tuple #[.string (B (cutL c l).1), .string (B (cutL c l).2.1), .bool (cutL c l).2.2]) ∧ Below w.heap.size w w' := by
  have hI := Lib.hid (lcut_any c l hl w)
  go_enter Tryz.func67, Tryz.ntmps67
  go_wp2_with fail
  refine hI.out.mono ?_
  rintro e w' ⟨rfl, hb⟩
  go_wp2_with fail
  exact bodyPost_ret (v := .tuple #[.string (B (cutL c l).1), .string (B (cutL c l).2.1), .bool (cutL c l).2.2]) (by simp [results, Tryz.results67, go_sem]) rfl ⟨rfl, hb⟩
end Go.Proofs.YtbjekebkgidhaaaGreatDoor.Sc
end
section
set_option linter.unusedSimpArgs false
set_option linter.unusedVariables false
namespace Go.Proofs.YtbjekebkgidhaaaGreatDoor.Sc
open Go.RowKit Go.Lib Go.Shelf Go.Maps Go.WideMaps Go.WideElems Go.Proofs.YtbjekebkgidhaaaGreatDoorW.PrintWords Go.Proofs.YtbjekebkgidhaaaGreatDoor.U Go.Proofs.YtbjekebkgidhaaaGreatDoor.Idx
abbrev Txt := List UInt8
abbrev MapL := Txt → Option Txt
def upd (m : MapL) (k t : Txt) : MapL := fun x => if x = k then some t else m x
def none0 : MapL := fun _ => none
theorem skeyed : Keyed Tryz.prog 9 := string_keyed Tryz.underlying9
theorem szero (w : World) : (zeroValue 9).run Tryz.prog w = .ok (.string ⟨#[]⟩) w := by kernel_rfl
def OwnsM (w : World) (b n : Nat) (m : MapL) : Prop :=
  ∃ D : DataW Unit, w.ownsMap Tryz.prog 9 (plainElem Tryz.prog 9) b n D ∧ (∀ k, Maps.has D (.string k) = (m k).isSome) ∧ (∀ k t, m k = some t → ∀ z, D.atKey (.string k) z = .lit (.string t))
theorem OwnsM.lt {w : World} {b n : Nat} {m : MapL} (h : OwnsM w b n m) : b < w.heap.size := by
  obtain ⟨D, h, _⟩ := h
  exact h.lt
theorem OwnsM.mono {w : World} {b n n' : Nat} {m : MapL} (h : OwnsM w b n m) (hn : n ≤ n') : OwnsM w b n' m := by
  obtain ⟨D, h, r⟩ := h
  exact ⟨D, h.mono hn, r⟩
theorem OwnsM.kept {w w' : World} {b n : Nat} {m : MapL} {row : Option Nat} (h : OwnsM w b n m) (hg : w.grownBy w' row) (hne : some b ≠ row) : OwnsM w' b n m := by
  obtain ⟨D, h, r⟩ := h
  exact ⟨D, h.kept hg hne, r⟩
theorem OwnsM.same {w w' : World} {b n : Nat} {m : MapL} (h : OwnsM w b n m) (hb : w'.heap[b]? = w.heap[b]?) : OwnsM w' b n m := by
  obtain ⟨D, ⟨es, clock, h1, h2⟩, r⟩ := h
  exact ⟨D, ⟨es, clock, hb.trans h1, h2⟩, r⟩
theorem OwnsM.made (w : World) : OwnsM (w.alloc (.map #[] 0)) w.heap.size 0 none0 :=
  ⟨.map [], World.ownsMap_made w _ _ _, fun _ => rfl, fun k t h => by cases h⟩
theorem OwnsM.look {w : World} {b n : Nat} {m : MapL} (h : OwnsM w b n m) (k : Txt) (hk : k.length ≤ maxLen) :
    (Instr.lookup 89 (.map (some b)) (.string (B k)) true).run Tryz.prog w = .ok (.tuple #[.string (B ((m k).getD [])), .bool (m k).isSome]) w := by
  obtain ⟨D, h, h1, h2⟩ := h
  have hkey : keyOf Tryz.prog 9 (.string (B k)) = some (.string k) := keyOf_string_mk Tryz.underlying9 (by rw [size_B]; exact hk)
  obtain ⟨v, ps, hrun, hv⟩ := h.look_ok skeyed Tryz.underlying89 (szero w) (plainElem_string Tryz.underlying9 (by decide)) hkey
  obtain ⟨s, rfl, hs, _⟩ := plainElem_string_inv Tryz.underlying9 hv
  have hat := (Prod.mk.inj hs).1
  rw [hrun, h1 k]
  have : s = B ((m k).getD []) := by
    cases hm : m k with
    | none =>
      show s = B []
      have hn : Maps.has D (.string k) = false := by rw [h1 k, hm]; rfl
      rw [Maps.atKey_of_not_has hn] at hat
      have : ([] : List UInt8) = s.data.toList := Lit.string.inj (DataW.lit.inj hat)
      have e := B_of s
      rw [← this] at e
      exact e
    | some t =>
      show s = B t
      rw [h2 k t hm] at hat
      have : t = s.data.toList := Lit.string.inj (DataW.lit.inj hat)
      have e := B_of s
      rw [← this] at e
      exact e
  rw [this]
theorem OwnsM.store {w : World} {b n : Nat} {m : MapL} (h : OwnsM w b n m) (hn : n < maxLen) (k t : Txt) (hk : k.length ≤ maxLen) (ht : t.length ≤ maxLen) :
    ∃ w', (Instr.mapUpdate 89 (.map (some b)) (.string (B k)) (.string (B t))).run Tryz.prog w = .ok () w' ∧ OwnsM w' b (n + 1) (upd m k t) ∧ w.grownBy w' (some b) := by
  obtain ⟨D, h, h1, h2⟩ := h
  have hkey : keyOf Tryz.prog 9 (.string (B k)) = some (.string k) := keyOf_string_mk Tryz.underlying9 (by rw [size_B]; exact hk)
  obtain ⟨w', hrun, hown, hg⟩ := h.update skeyed Tryz.underlying89 hn hkey (plainElem_string (H := Unit) Tryz.underlying9 (s := B t) (by rw [size_B]; exact ht))
  refine ⟨w', hrun, ⟨_, hown, ?_, ?_⟩, hg⟩
  · intro x
    by_cases hx : x = k
    · subst hx
      rw [has_put_same h.isMap (show WideAt.IsKeyLit (.string x) from trivial)]; simp [upd]
    · rw [has_put_other (by simpa using hx), h1 x]; simp [upd, hx]
  · intro x t' hx' z
    by_cases hx : x = k
    · subst hx
      rw [atKey_put_same h.isMap (show WideAt.IsKeyLit (.string x) from trivial)]
      have : t = t' := by simpa [upd] using hx'
      rw [← this]
    · rw [atKey_put_other (by simpa using hx)]
      exact h2 x t' (by simpa [upd, hx] using hx') z
theorem _root_.Go.RowKit.Below.next {a b c : World} (h : Below a.heap.size a b) (k : Below b.heap.size b c) : Below a.heap.size a c := h.trans (k.mono h.size)
structure Lev where
  b : Nat
  bm : Nat
  n : Nat
  m : MapL
def Chain (w : World) : List Lev → Value → Prop
  | [], v => v = .pointer none
  | s :: r, v => v = .pointer (some ⟨s.b, 0, none⟩) ∧ ∃ up, w.heap[s.b]? = some (.cells #[up, .map (some s.bm)] 91 (0, 0)) ∧ OwnsM w s.bm s.n s.m ∧ Chain w r up
def getL : List Lev → Txt → Txt
  | [], _ => []
  | s :: r, k => match s.m k with
    | some t => t
    | none => getL r k
theorem Chain.same {w w' : World} {L : List Lev} : ∀ {v : Value}, Chain w L v → (∀ s ∈ L, w'.heap[s.b]? = w.heap[s.b]? ∧ w'.heap[s.bm]? = w.heap[s.bm]?) → Chain w' L v := by
  induction L with
  | nil => intro v h _; exact h
  | cons s r ih =>
    intro v h hs
    obtain ⟨hv, up, hb, hm, hr⟩ := h
    exact ⟨hv, up, (hs s (by simp)).1.trans hb, hm.same (hs s (by simp)).2, ih hr fun x hx => hs x (by simp [hx])⟩
theorem Chain.lt {w : World} {L : List Lev} : ∀ {v : Value}, Chain w L v → ∀ s ∈ L, s.b < w.heap.size ∧ s.bm < w.heap.size := by
  induction L with
  | nil => intro v _ s hs; cases hs
  | cons x r ih =>
    intro v h s hs
    obtain ⟨hv, up, hb, hm, hr⟩ := h
    rcases List.mem_cons.1 hs with rfl | hs
    · exact ⟨(Array.getElem?_eq_some_iff.1 hb).1, hm.lt⟩
    · exact ih hr s hs
theorem Chain.below {w w' : World} {L : List Lev} {v : Value} (h : Chain w L v) (hb : Below w.heap.size w w') : Chain w' L v :=
  h.same fun s hs => ⟨hb.block _ (h.lt s hs).1, hb.block _ (h.lt s hs).2⟩
set_option maxRecDepth 100000 in
set_option maxHeartbeats 4000000 in
theorem Get_any (L : List Lev) (v : Value) (k : Txt) (hk : k.length ≤ maxLen) (w : World) (hC : Chain w L v) :
    Calls Tryz.prog 121 #[v, .string (B k)] w fun e w' => e = .returned (.string (B (getL L k))) ∧ w = w' := by
  go_enter Tryz.func121, Tryz.ntmps121
  go_wp2
  go_step3
  go_wp2
  go_step3
  go_wp2
  go_loopg [0] L.length (fun gk s0 wr => ∃ (u : Value) (L' : List Lev), s0 = u ∧ Hid (Chain w L' u) ∧ L'.length ≤ gk ∧ Hid (getL L' k = getL L k) ∧ w = wr)
  case atStart => exact ⟨v, L, rfl, hC, Nat.le_refl _, rfl, rfl⟩
  case round =>
    obtain ⟨u, L', hu, hC', hl, hG, rfl⟩ := hrel
    cases L' with
    | nil =>
      obtain rfl : u = .pointer none := hC'.out
      subst hu
      go_wp2_with fail
      rw [Exit.noGoto_ret]
      go_ret
      exact ⟨by rw [← hG.out]; rfl, rfl⟩
    | cons s r =>
      simp only [List.length_cons] at hl
      cases gk with
      | zero => omega
      | succ gk =>
      obtain ⟨rfl, up, hb, hm, hr⟩ := hC'.out
      subst hu
      have c0 : w.cell? ⟨s.b, 0, none⟩ = some up := by rw [cell_of_heap hb]; rfl
      have c1 : w.cell? ⟨s.b, 1, none⟩ = some (.map (some s.bm)) := by rw [cell_of_heap hb]; rfl
      have hlook := hm.look k hk
      cases hmk : s.m k with
      | none =>
        rw [hmk] at hlook
        simp only [Option.getD_none, Option.isSome_none] at hlook
        have hG' : Hid (getL r k = getL L k) := by
          have := hG.out
          simp only [getL, hmk] at this
          exact this
        have hR := Lib.hid hr
        clear hr hG hm hmk
        go_wp2_with fail
        go_roundg gk
        case measure => omega
        case rel => exact ⟨up, r, rfl, hR, by omega, hG', rfl⟩
      | some t =>
        rw [hmk] at hlook
        simp only [Option.getD_some, Option.isSome_some] at hlook
        have hG' : Hid (t = getL L k) := by
          have := hG.out
          simp only [getL, hmk] at this
          exact this
        clear hr hG hm hmk
        go_wp2_with fail
        rw [Exit.noGoto_ret]
        go_ret
        exact ⟨by rw [← hG'.out]; rfl, rfl⟩
set_option maxRecDepth 100000 in
set_option maxHeartbeats 2000000 in
theorem New_any (q : Option Addr) (w : World) :
    Calls Tryz.prog 20 #[.pointer q] w fun e w' => e = .returned (.pointer (some ⟨w.heap.size + 1, 0, none⟩)) ∧
      (w.alloc (.map #[] 0)).alloc (.cells #[.pointer q, .map (some w.heap.size)] 91) = w' := by
  have hmm := @run_makeMap Tryz.prog
  go_enter Tryz.func20, Tryz.ntmps20
  go_wp2_with fail
  go_ret
  exact ⟨rfl, rfl⟩
def Stored (w w' : World) (s : Lev) (k t : Txt) : Prop := ∃ w1, Below w.heap.size w w1 ∧ w1.grownBy w' (some s.bm) ∧ OwnsM w' s.bm (s.n + 1) (upd s.m k t)
def Lev.set (s : Lev) (k t : Txt) : Lev := ⟨s.b, s.bm, s.n + 1, upd s.m k t⟩
theorem Stored.other {w w' : World} {s : Lev} {k t : Txt} {L : List Lev} {v : Value} (h : Stored w w' s k t) (hC : Chain w L v) (hne : ∀ x ∈ L, x.bm ≠ s.bm ∧ x.b ≠ s.bm) : Chain w' L v := by
  obtain ⟨w1, h1, h2, h3⟩ := h
  have hC1 := hC.below h1
  refine hC1.same fun x hx => ⟨?_, ?_⟩
  · exact h2.block _ (hC1.lt x hx).1 (fun e => (hne x hx).2 (by injection e))
  · exact h2.block _ (hC1.lt x hx).2 (fun e => (hne x hx).1 (by injection e))
theorem Stored.head {w w' : World} {s : Lev} {k t : Txt} {L : List Lev} {v : Value} (h : Stored w w' s k t) (hC : Chain w (s :: L) v) (hne : ∀ x ∈ L, x.bm ≠ s.bm ∧ x.b ≠ s.bm) (hs : s.b ≠ s.bm) : Chain w' (s.set k t :: L) v := by
  obtain ⟨hv, up, hb, hm, hr⟩ := hC
  have hr' := h.other hr hne
  obtain ⟨w1, h1, h2, h3⟩ := h
  refine ⟨hv, up, ?_, h3, hr'⟩
  have hlt := (Array.getElem?_eq_some_iff.1 hb).1
  have hb1 := (h1.block _ hlt).trans hb
  exact (h2.block _ (Array.getElem?_eq_some_iff.1 hb1).1 (fun e => hs (by injection e))).trans hb1
set_option maxRecDepth 100000 in
set_option maxHeartbeats 2000000 in
theorem Set_ok (s : Lev) (r : List Lev) (v : Value) (k t : Txt) (hk : nameL k = true) (hkl : k.length ≤ maxLen) (htl : t.length ≤ maxLen) (hn : s.n < 1000000) (w : World) (hC : Chain w (s :: r) v) :
    Calls Tryz.prog 46 #[v, .string (B k), .string (B t)] w fun e w' => e = .returned (.int .i64 0) ∧ Stored w w' s k t := by
  have hN := Lib.hid (fun W => Name_any k W)
  rw [hk] at hN
  obtain ⟨rfl, up, hb, hm, hr⟩ := hC
  have hlt := (Array.getElem?_eq_some_iff.1 hb).1
  have hHB := Lib.hid hb
  have hHM := Lib.hid hm
  clear hr hb hm
  go_enter Tryz.func46, Tryz.ntmps46
  go_wp2_with fail
  refine (hN.out _).mono ?_
  rintro e w1 ⟨rfl, hB⟩
  have hb1 := (hB.block _ hlt).trans hHB.out
  have c0 : w1.cell? ⟨s.b, 0, none⟩ = some up := by rw [cell_of_heap hb1]; rfl
  have c1 : w1.cell? ⟨s.b, 1, none⟩ = some (.map (some s.bm)) := by rw [cell_of_heap hb1]; rfl
  have hm1 := hHM.out.same (hB.block _ hHM.out.lt)
  obtain ⟨w2, hrun, hown, hg⟩ := hm1.store (by unfold maxLen; omega) k t hkl htl
  clear hb1 hm1
  go_wp2_with fail
  go_ret
  exact ⟨rfl, w1, hB, hg, hown⟩
end Go.Proofs.YtbjekebkgidhaaaGreatDoor.Sc
end
section
set_option linter.unusedSimpArgs false
set_option linter.unusedVariables false
namespace Go.Proofs.YtbjekebkgidhaaaGreatDoor.Sc
open Go.RowKit Go.Lib Go.Proofs.YtbjekebkgidhaaaGreatDoorW.PrintWords Go.Proofs.YtbjekebkgidhaaaGreatDoor.U
abbrev escs : ByteArray := ⟨#[36, 32, 58, 124]⟩
def escR (c : Nat) : Bool := c == 36 || c == 32 || c == 58 || c == 124
theorem indexByte_no (l : List UInt8) (c : UInt8) (h : c ∉ l) : Lib.indexByte l c = -1 := by
  induction l with
  | nil => rfl
  | cons b l ih =>
    have h1 : b ≠ c := fun e => h (by simp [e])
    have h2 := ih (fun e => h (by simp [e]))
    unfold Lib.indexByte
    simp [h1, h2]
theorem ib_none (s : ByteArray) (b : Nat) (hs : ∀ x ∈ s.data.toList, x.toNat < 128) (h1 : 128 ≤ b) (h2 : b < 256) (w : World) :
    Calls Tryz.prog 139 #[.string s, .int .u8 (b : Int)] w fun e w' => e = .returned (.int .i64 (-1)) ∧ w' = w := by
  have h := Tryz.strings_IndexByte s (b : Int) w
  rw [indexByte_no] at h
  · exact h
  · intro hm
    have := hs _ hm
    simp at this
    rw [Nat.mod_eq_of_lt h2] at this
    omega
theorem escs_tail (a b : Nat) : ∀ x ∈ (escs.extract a b).data.toList, x.toNat < 128 := by
  intro x hx
  have := mem_extract hx
  simp at this
  rcases this with rfl | rfl | rfl | rfl <;> decide
theorem last_byte_of (rs : ByteArray) (k : Nat) (hk : rs.size = k + 1) (q : ∀ h : rs.size - 1 < rs.size, 128 ≤ (rs[rs.size - 1]'h).toNat) :
    ∃ b : Nat, 128 ≤ b ∧ b < 256 ∧ ∀ h : k < rs.size, ((rs[k]'h).toNat : Int) = (b : Int) := by
  have q4 := q (by omega)
  simp only [hk, Nat.add_sub_cancel] at q4
  exact ⟨(rs[k]'(by omega)).toNat, q4, UInt8.toNat_lt _, fun _ => rfl⟩
theorem enc2 : ∀ i : Fin 128, (Utf8.encode ((i.val + 128 : Nat) : Int)).size = 2 ∧ Lib.validRune ((i.val + 128 : Nat) : Int) = true := by decide +kernel
set_option maxRecDepth 1000000 in
set_option maxHeartbeats 4000000 in
theorem indexRune_two (r : Nat) (h0 : 128 ≤ r) (h1 : r < 256) (w : World) :
    Calls Tryz.prog 118 #[.string escs, .int .i32 (r : Int)] w fun e w' => e = .returned (.int .i64 (-1)) ∧ Below w.heap.size w w' := by
  have hE' : ((r : Int) == 65533) = false := by rw [beq_eq_false_iff_ne]; omega
  have hlt : decide ((r : Int) < 128) = false := by simp; omega
  obtain ⟨hz, hv⟩ := enc2 ⟨r - 128, by omega⟩
  simp only [show r - 128 + 128 = r by omega] at hz hv
  obtain ⟨q1, q2, q3⟩ := encode_facts (r : Int) (by rw [validRune_eq]; exact hv) (by omega)
  generalize hrs : Utf8.encode (r : Int) = rs at q1 q2 q3 hz
  clear q1 q2
  obtain ⟨b, hb1, hb3, hb2⟩ := last_byte_of rs 1 hz q3
  have hne : ((32 : Int) != (b : Int)) = true := by rw [bne_iff_ne]; omega
  clear q3
  have s1 : IntKind.i64.wrap (1 + 1) = 2 := by rfl
  have hsg : ∀ h : 1 < escs.size, ((escs[1]'h).toNat : Int) = 32 := fun _ => rfl
  have HS := Lib.hid (escs_tail 2 4)
  go_enter Tryz.func118, Tryz.ntmps118
  go_wp2_with (first | (go_at_call 140; refine (Tryz.utf8_ValidRune _ _).mono ?_; rintro e w' ⟨rfl, rfl⟩))
  go_step3
  go_wp2_with fail
  refine wp_loop_rounds 1 ?_
  rw [rounds_succ]
  go_wp2_with fail
  go_step3
  go_wp2_with fail
  go_quiet (fail)
  clear hrs hv hE' hlt
  go_wp2_with fail
  go_region_with (go_at_call 139; refine (ib_none _ b HS.out hb1 hb3 _).mono ?_; rintro e w2 ⟨rfl, rfl⟩)
  all_goals go_wp2_with fail
  all_goals (rw [Exit.noGoto_ret]; go_simp; go_ret; exact ⟨rfl, below_drewNg _ _⟩)
theorem esc_ascii : ∀ c : Fin 128, decide (0 ≤ Lib.indexByte escs.data.toList ((c.val : Int).toNat.toUInt8)) = escR c.val := by decide +kernel
set_option maxRecDepth 100000 in
set_option maxHeartbeats 2000000 in
theorem contains_esc (c : Nat) (h1 : c < 256) (w : World) :
    Calls Tryz.prog 92 #[.string escs, .int .i32 (c : Int)] w fun e w' => e = .returned (.bool (escR c)) ∧ Below w.heap.size w w' := by
  by_cases hc : c < 128
  · have h := Tryz.strings_ContainsRune_ascii escs (c : Int) w (by omega) (by omega)
    have e := esc_ascii ⟨c, hc⟩
    simp only at e
    rw [e] at h
    exact h.mono fun e w' ⟨he, hw⟩ => ⟨he, hw ▸ Below.refl _ _⟩
  · have HI := Lib.hid (indexRune_two c (by omega) h1 w)
    have e : escR c = false := by
      have h1 : ¬ c = 36 := by omega
      have h2 : ¬ c = 32 := by omega
      have h3 : ¬ c = 58 := by omega
      have h4 : ¬ c = 124 := by omega
      simp [escR, h1, h2, h3, h4]
    rw [e]
    go_enter Tryz.func92, Tryz.ntmps92
    go_wp2_with fail
    refine HI.out.mono ?_
    rintro e w' ⟨rfl, hb⟩
    go_wp2_with fail
    go_ret
    exact ⟨rfl, hb⟩
end Go.Proofs.YtbjekebkgidhaaaGreatDoor.Sc
end
section
set_option linter.unusedSimpArgs false
set_option linter.unusedVariables false
namespace Go.Proofs.YtbjekebkgidhaaaGreatDoor.Sc
open Go.RowKit Go.Lib Go.Shelf Go.Proofs.YtbjekebkgidhaaaGreatDoorW.PrintWords Go.Proofs.YtbjekebkgidhaaaGreatDoor.U Go.Proofs.YtbjekebkgidhaaaGreatDoor.Idx
def dollarL (L : List Lev) : Txt → Txt × Txt × Bool
  | [] => ([], [], false)
  | c :: r => if escR c.toNat = true then ([c], r, true) else if c = 123 then (getL L (cutL 125 r).1, (cutL 125 r).2.1, (cutL 125 r).2.2 && nameL (cutL 125 r).1) else
      (getL L ((c :: r).takeWhile shortB), (c :: r).dropWhile shortB, decide ((c :: r).takeWhile shortB ≠ []))
theorem cutL_len (c : UInt8) (l : Txt) : (cutL c l).1.length ≤ l.length ∧ (cutL c l).2.1.length ≤ l.length := by
  induction l with
  | nil => simp [cutL]
  | cons b l ih =>
    rw [cutL]
    split
    · simp
    · simp; omega
theorem take_drop_while (f : UInt8 → Bool) (l : Txt) : l.take (l.takeWhile f).length = l.takeWhile f ∧ l.drop (l.takeWhile f).length = l.dropWhile f := by
  induction l with
  | nil => simp
  | cons b l ih =>
    by_cases h : f b = true
    · simp [List.takeWhile_cons, List.dropWhile_cons, h, ih]
    · simp [List.takeWhile_cons, List.dropWhile_cons, h]
theorem takeWhile_all (f : UInt8 → Bool) (l : Txt) (h : l.all f = true) : l.takeWhile f = l := by
  induction l with
  | nil => rfl
  | cons b l ih =>
    rw [List.all_cons, Bool.and_eq_true] at h
    rw [List.takeWhile_cons, if_pos h.1, ih h.2]
set_option maxRecDepth 100000 in
set_option maxHeartbeats 1000000 in
theorem dollar_any (L : List Lev) (v : Value) (rest : Txt) (hl : rest.length < 4611686018427387904) (w : World) (hC : Chain w L v) :
    Calls Tryz.prog 102 #[v, .string (B rest)] w fun e w' => e = .returned (.tuple #[.string (B (dollarL L rest).1), .string (B (dollarL L rest).2.1), .bool (dollarL L rest).2.2]) ∧ Below w.heap.size w w' := by
  cases rest with
  | nil =>
    go_enter Tryz.func102, Tryz.ntmps102
    go_wp2_with fail
    exact bodyPost_ret (v := .tuple #[.string (B []), .string (B []), .bool false]) (by simp [results, Tryz.results102, go_sem]) rfl ⟨rfl, Below.refl _ _⟩
  | cons c r =>
    simp only [List.length_cons] at hl
    have h0 : ∀ h : 0 < (B (c :: r)).size, (((B (c :: r))[0]'h).toNat : Int) = (c.toNat : Int) := fun h => rfl
    have hsB : (B (c :: r)).size = r.length + 1 := by rw [size_B]; rfl
    have hne2 : (B (c :: r)).toList.isEmpty = false := by rw [toList_B]; rfl
    have hcr := c.toNat_lt
    have hE := Lib.hid (contains_esc c.toNat c.toNat_lt)
    cases he : escR c.toNat with
    | true =>
      rw [he] at hE
      have hd : dollarL L (c :: r) = ([c], r, true) := by rw [dollarL, if_pos he]
      rw [hd]
      have e1 : (B (c :: r)).extract 0 1 = B [c] := by rw [extract_B]; rfl
      have e2 : (B (c :: r)).extract 1 (r.length + 1) = B r := by rw [extract_B]; simp
      have E1 := Lib.hid e1
      have E2 := Lib.hid e2
      clear e1 e2 he hd
      go_enter Tryz.func102, Tryz.ntmps102
      go_wp2_with fail
      refine (hE.out _).mono ?_
      rintro e w' ⟨rfl, hb⟩
      go_wp2_with fail
      go_region
      go_wp2_with fail
      rw [E1.out, E2.out]
      exact bodyPost_ret (v := .tuple #[.string (B [c]), .string (B r), .bool true]) (by simp [results, Tryz.results102, go_sem]) rfl ⟨rfl, hb.drew⟩
    | false =>
      rw [he] at hE
      by_cases h123 : c = 123
      · subst h123
        have hlen := cutL_len 125 r
        have hCut := Lib.hid (fun W => cut_any 125 r (by omega) W)
        have hGet := Lib.hid (fun (W : World) (hW : Chain W L v) => Get_any L v (cutL 125 r).1 (by unfold maxLen; omega) W hW)
        have hName := Lib.hid (fun W => Name_any (cutL 125 r).1 W)
        have hd : dollarL L (123 :: r) = (getL L (cutL 125 r).1, (cutL 125 r).2.1, (cutL 125 r).2.2 && nameL (cutL 125 r).1) := by rw [dollarL, he]; simp
        rw [hd]
        have e2 : (B (123 :: r)).extract 1 (r.length + 1) = B r := by rw [extract_B]; simp
        have hCC := Lib.hid hC
        clear he hd hC hlen
        generalize (cutL 125 r).1 = nm at *
        generalize (cutL 125 r).2.1 = lf at *
        generalize (cutL 125 r).2.2 = cl at *
        cases cl with
        | false =>
          go_enter Tryz.func102, Tryz.ntmps102
          go_wp2_with fail
          refine (hE.out _).mono ?_
          rintro e w1 ⟨rfl, hb1⟩
          go_wp2_with fail
          refine (hCut.out _).mono ?_
          rintro e w2 ⟨rfl, hb2⟩
          go_wp2_with fail
          refine (hGet.out _ ((hCC.out.below hb1).below hb2)).mono ?_
          rintro e w3 ⟨rfl, rfl⟩
          go_wp2_with fail
          exact bodyPost_ret (v := .tuple #[.string (B (getL L nm)), .string (B lf), .bool false]) (by simp [results, Tryz.results102, go_sem]) rfl ⟨rfl, hb1.next hb2⟩
        | true =>
          go_enter Tryz.func102, Tryz.ntmps102
          go_wp2_with fail
          refine (hE.out _).mono ?_
          rintro e w1 ⟨rfl, hb1⟩
          go_wp2_with fail
          refine (hCut.out _).mono ?_
          rintro e w2 ⟨rfl, hb2⟩
          go_wp2_with fail
          refine (hGet.out _ ((hCC.out.below hb1).below hb2)).mono ?_
          rintro e w3 ⟨rfl, rfl⟩
          go_wp2_with fail
          refine (hName.out _).mono ?_
          rintro e w4 ⟨rfl, hb4⟩
          go_wp2_with fail
          exact bodyPost_ret (v := .tuple #[.string (B (getL L nm)), .string (B lf), .bool (nameL nm)]) (by simp [results, Tryz.results102, go_sem]) rfl ⟨by simp, (hb1.next hb2).next hb4⟩
      · have n123 : ((c.toNat : Int) == 123) = false := by rw [beq_eq_false_iff_ne]; exact byte_ne (d := 123) h123
        have hd : dollarL L (c :: r) = (getL L ((c :: r).takeWhile shortB), (c :: r).dropWhile shortB, decide ((c :: r).takeWhile shortB ≠ [])) := by rw [dollarL, he]; simp [h123]
        rw [hd]
        have hI := Lib.hid (fun W => Tryz.strings_IndexFunc_grows 122 #[] (fun args w => by kernel_rfl) (fun c => !shortR c) (B (c :: r)) W (notshort_grows W))
        have hi := idx_func shortR shortR_beyond' (c :: r)
        have hti : (fun b : UInt8 => shortR b.toNat) = shortB := rfl
        rw [hti] at hi
        rw [hi] at hI
        obtain ⟨ht1, ht2⟩ := take_drop_while shortB (c :: r)
        have htl : ((c :: r).takeWhile shortB).length ≤ r.length + 1 := by
          have := congrArg List.length ht1
          rw [List.length_take, List.length_cons] at this
          omega
        have hGet := Lib.hid (fun (W : World) (hW : Chain W L v) => Get_any L v ((c :: r).takeWhile shortB) (by unfold maxLen; omega) W hW)
        have hCC := Lib.hid hC
        clear hi hti hd he hC
        obtain ⟨n, hn⟩ : ∃ n, ((c :: r).takeWhile shortB).length = n := ⟨_, rfl⟩
        have hpos : decide ((c :: r).takeWhile shortB ≠ []) = decide (0 < n) := by
          rw [← hn]
          congr 1
          exact propext (List.length_pos_iff.symm)
        rw [hpos]
        have e1 : (B (c :: r)).extract 0 n = B ((c :: r).takeWhile shortB) := by rw [extract_B, ← hn, ht1]; simp
        have e2 : (B (c :: r)).extract n (r.length + 1) = B ((c :: r).dropWhile shortB) := by rw [extract_B, ← hn, ← ht2, List.take_of_length_le (by simp)]
        have E2 := Lib.hid e2
        rw [hn] at htl
        rw [← e1] at hGet
        have fin : ∀ i : Int, (i = -1 ∧ n = r.length + 1) ∨ i = (n : Int) → Hid (∀ W, Calls Tryz.prog 61 #[.string (B (c :: r)), .func (.func 122) #[] #[]] W fun e w' => e = .returned (.int .i64 i) ∧ Below W.heap.size W w') →
            Calls Tryz.prog 102 #[v, .string (B (c :: r))] w fun e w' => e = .returned (.tuple #[.string (B (getL L ((c :: r).takeWhile shortB))), .string (B ((c :: r).dropWhile shortB)), .bool (decide (0 < n))]) ∧ Below w.heap.size w w' := by
          intro i hi hI
          generalize (c :: r).takeWhile shortB = nm at *
          generalize (c :: r).dropWhile shortB = lf at *
          clear e1 e2 ht1 ht2 hn hpos
          have hnn : ((n : Int) ≤ ((r.length + 1 : Nat) : Int)) = True := eq_true (by omega)
          rcases hi with ⟨rfl, rfl⟩ | rfl
          · have hlf : ByteArray.empty = B lf := by
              have := E2.out
              simpa using this
            have hd : decide (0 < r.length + 1) = true := by simp
            rw [hd]
            go_enter Tryz.func102, Tryz.ntmps102
            go_wp2_with fail
            refine (hE.out _).mono ?_
            rintro e w1 ⟨rfl, hb1⟩
            go_wp2_with fail
            refine (hI.out _).mono ?_
            rintro e w2 ⟨rfl, hb2⟩
            go_wp2_with fail
            have hCh := Lib.hid ((hCC.out.below hb1).below hb2)
            go_region_with (go_at_call 121; refine (hGet.out _ (hCh.out.same (by intro s hs; exact ⟨rfl, rfl⟩))).mono ?_; rintro e w3 ⟨rfl, rfl⟩)
            all_goals go_wp2_with fail
            all_goals go_simp
            all_goals exact bodyPost_ret (v := .tuple #[.string (B (getL L nm)), .string (B lf), .bool true]) (by simp [results, Tryz.results102, go_sem]) rfl ⟨rfl, (hb1.next hb2).drew⟩
          · have hneg : decide ((n : Int) < 0) = false := by rw [decide_eq_false_iff_not]; omega
            go_enter Tryz.func102, Tryz.ntmps102
            go_wp2_with fail
            refine (hE.out _).mono ?_
            rintro e w1 ⟨rfl, hb1⟩
            go_wp2_with fail
            refine (hI.out _).mono ?_
            rintro e w2 ⟨rfl, hb2⟩
            go_wp2_with fail
            have hCh := Lib.hid ((hCC.out.below hb1).below hb2)
            go_region_with (go_at_call 121; refine (hGet.out _ (hCh.out.same (by intro s hs; exact ⟨rfl, rfl⟩))).mono ?_; rintro e w3 ⟨rfl, rfl⟩)
            all_goals go_wp2_with fail
            all_goals go_simp
            all_goals (rw [E2.out]; exact bodyPost_ret (v := .tuple #[.string (B (getL L nm)), .string (B lf), .bool (decide (0 < n))]) (by simp [results, Tryz.results102, go_sem]) rfl ⟨rfl, (hb1.next hb2).drew⟩)
        refine fin _ ?_ hI
        split
        · rename_i h
          refine .inl ⟨rfl, ?_⟩
          rw [← hn, takeWhile_all _ _ h]; rfl
        · exact .inr (by rw [hn])
end Go.Proofs.YtbjekebkgidhaaaGreatDoor.Sc
end
section
set_option linter.unusedVariables false
namespace Go.Proofs.YtbjekebkgidhaaaGreatDoor.Bld
open Go.RowKit Go.Shelf
theorem info53 : (Tryz.prog.info? 46).map (·.size) = some 2 := by kernel_rfl
theorem lies53 : liesAt Tryz.prog Tryz.prog.depth 46 (2 / Tryz.prog.cellsOf 46) 0 46 1 = true := by kernel_rfl
theorem info5 : (Tryz.prog.info? 5).map (fun i => (i.zero, i.size, i.bytes)) = some (some (.int .u8 0), 1, 1) := by kernel_rfl
set_option maxHeartbeats 1000000 in
set_option maxRecDepth 100000 in
theorem check_used (b : Nat) (w : World) (h0 : w.cell? ⟨b, 0, none⟩ = some (.pointer (some ⟨b, 0, none⟩))) :
    Calls Tryz.prog 29 #[.pointer (some ⟨b, 0, none⟩)] w fun e w' => e = .returned (.tuple #[]) ∧ w' = w := by
  obtain ⟨j, hj, _⟩ := Option.map_eq_some_iff.1 info53
  go_enter Tryz.func29, Tryz.ntmps29
  go_wp2
  rw [Lib.run_neq_ptr_same w _ Tryz.underlying43 hj]
  go_wp2
  go_end0
  exact ⟨rfl, rfl⟩
set_option maxHeartbeats 1000000 in
set_option maxRecDepth 100000 in
theorem check_fresh (b : Nat) (w : World) (h0 : w.cell? ⟨b, 0, none⟩ = some (.pointer none)) (hsh : w.shape? b = some (46, 2)) (hfz : w.frozen? ⟨b, 0, none⟩ = false) :
    Calls Tryz.prog 29 #[.pointer (some ⟨b, 0, none⟩)] w fun e w' => e = .returned (.tuple #[]) ∧ w' = w.setCell ⟨b, 0, none⟩ (.pointer (some ⟨b, 0, none⟩)) := by
  obtain ⟨j, hj, hjs⟩ := Option.map_eq_some_iff.1 info53
  go_enter Tryz.func29, Tryz.ntmps29
  go_wp2
  rw [Lib.run_to_unsafe w ⟨b, 0, none⟩ Tryz.underlying43 Tryz.underlying108 hj (by rw [hjs]; decide) hsh (Nat.zero_lt_succ 1)]
  simp only [Result.andThen]
  rw [Oper.upon_value]
  go_wp2
  rw [run_callFunc_extern Tryz.func55 (by kernel_rfl) (by kernel_rfl) (by kernel_rfl) (e := Extern.AbiNoEscape.same) (by kernel_rfl)]
  rw [Lib.run_noEscape]
  simp only [Result.andThen]
  rw [Oper.upon_value]
  go_wp2
  rw [Lib.run_from_unsafe w ⟨b, 0, none⟩ Tryz.underlying108 Tryz.underlying43 hj hsh lies53]
  simp only [Result.andThen]
  rw [Oper.upon_value]
  go_wp2
  go_end0
  exact ⟨rfl, rfl⟩
abbrev IsB (B b : Nat) (l : List UInt8) (w : World) : Prop := Lib.IsBuilder 46 5 B b (Lib.byteCells l) w
theorem check_any (B b : Nat) (bs : List Value) (w : World) (h : Lib.IsBuilder 46 5 B b bs w) :
    Calls Tryz.prog 29 #[.pointer (some ⟨b, 0, none⟩)] w fun e w' => e = .returned (.tuple #[]) ∧ (Lib.BuilderAt 46 5 B b (.pointer (some ⟨b, 0, none⟩)) bs w' ∧ Below B w w') := by
  rcases h with h | h
  · refine (check_fresh b w h.cell0 h.shape h.frozen0).mono ?_
    rintro e w' ⟨rfl, rfl⟩
    exact ⟨rfl, h.used _, (Below.refl B w).setCell (p := ⟨b, 0, none⟩) h.1 _⟩
  · refine (check_used b w h.cell0).mono ?_
    rintro e w' ⟨rfl, rfl⟩
    exact ⟨rfl, h, Below.refl B _⟩
set_option maxHeartbeats 2000000 in
set_option maxRecDepth 100000 in
theorem write_any (B b : Nat) (bs : List Value) (s : ByteArray) (w : World) (h : Lib.IsBuilder 46 5 B b bs w) (hlen : bs.length + s.size ≤ 140737488355328) (hBw : B ≤ w.heap.size) :
    Calls Tryz.prog 13 #[.pointer (some ⟨b, 0, none⟩), .string s] w fun e w' => e = .returned (.tuple #[.int .i64 s.size, .nilIface]) ∧ (Lib.BuilderAt 46 5 B b (.pointer (some ⟨b, 0, none⟩)) (bs ++ Lib.strCells s) w' ∧ Below B w w') := by
  obtain ⟨i0, hi, hz0, hz1, hz2⟩ := info_parts info5
  go_enter Tryz.func13, Tryz.ntmps13
  go_wp2_with (go_at_call 29; refine (check_any B b bs _ h).mono ?_)
  rintro e w1 ⟨rfl, h1, hb1⟩
  obtain ⟨hB, v, hbk, hown, hne⟩ := h1
  have c0 : w1.cell? ⟨b, 0, none⟩ = some (.pointer (some ⟨b, 0, none⟩)) := by rw [Lib.cell_of_heap hbk]; rfl
  have c1 : w1.cell? ⟨b, 1, none⟩ = some v := by rw [Lib.cell_of_heap hbk]; rfl
  go_wp2_with (at_builtin; refine Lib.wpList_append_own_string _ rfl _ _ 44 9 rfl B 5 i0 Tryz.underlying44 Tryz.underlying9 hi hz0 hz1 hz2 _ _ _ rfl hown s rfl ?c3 ?c4 ?c5 ?_)
  case c3 => unfold maxLen; omega
  case c4 => omega
  case c5 => have := hb1.size; omega
  intro v' w2 hown' hgrow _
  have hlt : b < w1.heap.size := by
    rcases Nat.lt_or_ge b w1.heap.size with h' | h'
    · exact h'
    · simp [Array.getElem?_eq_none h'] at hbk
  have hb2 : w2.heap[b]? = some (.cells #[.pointer (some ⟨b, 0, none⟩), v] 46 (0, 0)) := by
    rw [hgrow.block b hlt (fun e => hne e.symm)]
    exact hbk
  have d0 : w2.cell? ⟨b, 0, none⟩ = some (.pointer (some ⟨b, 0, none⟩)) := by rw [Lib.cell_of_heap hb2]; rfl
  have d1 : w2.cell? ⟨b, 1, none⟩ = some v := by rw [Lib.cell_of_heap hb2]; rfl
  have f1 : w2.frozen? ⟨b, 1, none⟩ = false := Lib.frozen_of_heap hb2 1
  obtain ⟨ao, n', cap, rfl⟩ : ∃ ao n' cap, v' = .slice ao n' cap := by
    rcases hown'.2 with ⟨hv, _⟩ | ⟨g, cap, cur, hv, _⟩
    · exact ⟨_, _, _, hv⟩
    · exact ⟨_, _, _, hv⟩
  go_wp2
  go_ret2
  refine ⟨rfl, ?_, ?_⟩
  · exact Lib.BuilderAt.put (T := 46) (e := 5) hB hb2 (bs' := bs ++ Lib.strCells s) (by simpa [Lib.strCells_length] using hown') (by decide)
  · exact (hb1.grown hgrow (by have := hb1.size; omega) (fun k hk => (hown.lt k hk).1)).setCell (p := ⟨b, 1, none⟩) hB _
theorem strCells_bytes (l : List UInt8) : Lib.strCells ⟨l.toArray⟩ = Lib.byteCells l := by
  simp [Lib.strCells, Lib.byteCells]
theorem write (B b : Nat) (l m : List UInt8) (w : World) (h : IsB B b l w) (hlen : l.length + m.length ≤ 140737488355328) (hBw : B ≤ w.heap.size) :
    Calls Tryz.prog 13 #[.pointer (some ⟨b, 0, none⟩), .string ⟨m.toArray⟩] w fun e w' => e = .returned (.tuple #[.int .i64 m.length, .nilIface]) ∧ IsB B b (l ++ m) w' ∧ Below B w w' := by
  refine (write_any B b (Lib.byteCells l) ⟨m.toArray⟩ w h (by simpa [Lib.byteCells, ByteArray.size] using hlen) hBw).mono ?_
  rintro e w' ⟨rfl, h1, h2⟩
  refine ⟨by simp [ByteArray.size], ?_, h2⟩
  rw [strCells_bytes] at h1
  have : Lib.byteCells (l ++ m) = Lib.byteCells l ++ Lib.byteCells m := by simp [Lib.byteCells]
  show Lib.IsBuilder _ _ _ _ _ _
  rw [this]
  exact .inr h1
end Go.Proofs.YtbjekebkgidhaaaGreatDoor.Bld
end
section
set_option linter.unusedSimpArgs false
set_option linter.unusedVariables false
namespace Go.Proofs.YtbjekebkgidhaaaGreatDoor.Sc
open Go.RowKit Go.Lib Go.Shelf Go.Proofs.YtbjekebkgidhaaaGreatDoorW.PrintWords Go.Proofs.YtbjekebkgidhaaaGreatDoor.U Go.Proofs.YtbjekebkgidhaaaGreatDoor.Idx Go.Proofs.YtbjekebkgidhaaaGreatDoor.Bld
def expGo (L : List Lev) : Nat → Txt → Txt → Bool → Option (Txt × Bool)
  | 0, _, _, _ => none
  | f + 1, text, out, long =>
    if (cutL 36 text).2.2 = false then some (out ++ (cutL 36 text).1, long) else
    if (dollarL L (cutL 36 text).2.1).2.2 = false then none else
    if long = true ∨ 16384 < (out ++ (cutL 36 text).1).length + (dollarL L (cutL 36 text).2.1).1.length then expGo L f (dollarL L (cutL 36 text).2.1).2.1 (out ++ (cutL 36 text).1) true
    else expGo L f (dollarL L (cutL 36 text).2.1).2.1 (out ++ (cutL 36 text).1 ++ (dollarL L (cutL 36 text).2.1).1) false
def finL : Option (Txt × Bool) → Txt × Int
  | none => ([], 10)
  | some (out, long) => if long = true ∨ 16384 < out.length then ([], 3) else (out, 0)
def expandL (L : List Lev) (text : Txt) : Txt × Int := finL (expGo L (text.length + 1) text [] false)
theorem dollarL_len (L : List Lev) (rest : Txt) : (dollarL L rest).2.1.length ≤ rest.length := by
  cases rest with
  | nil => simp [dollarL]
  | cons c r =>
    rw [dollarL]
    split
    · simp
    · split
      · have := cutL_len 125 r
        simp; omega
      · show ((c :: r).dropWhile shortB).length ≤ _
        exact (List.dropWhile_sublist _).length_le
theorem dollarL_own (L : List Lev) (hT : ∀ k, (getL L k).length < 1000000000) (rest : Txt) : (dollarL L rest).1.length < 1000000000 := by
  cases rest with
  | nil => simp [dollarL]
  | cons c r =>
    rw [dollarL]
    split
    · simp
    · split
      · exact hT _
      · exact hT _
theorem cutL_some_len (c : UInt8) (l : Txt) (h : (cutL c l).2.2 = true) : (cutL c l).1.length + 1 + (cutL c l).2.1.length = l.length := by
  induction l with
  | nil => simp [cutL] at h
  | cons b l ih =>
    rw [cutL] at h ⊢
    split at h
    · rename_i hb; rw [if_pos hb]; simp; omega
    · rename_i hb; rw [if_neg hb]; have := ih h; simp; omega
theorem expGo_succ (L : List Lev) (f : Nat) (text out : Txt) (long : Bool) {pl rs ow lf : Txt} {is ok : Bool} (h1 : cutL 36 text = (pl, rs, is)) (h2 : dollarL L rs = (ow, lf, ok)) :
    expGo L (f + 1) text out long = if is = false then some (out ++ pl, long) else if ok = false then none else
      if long = true ∨ 16384 < (out ++ pl).length + ow.length then expGo L f lf (out ++ pl) true else expGo L f lf (out ++ pl ++ ow) false := by
  rw [expGo, h1]
  simp only
  rw [h2]
theorem Len_any (B0 b : Nat) (l : Txt) (w : World) (h : IsB B0 b l w) : Calls Tryz.prog 16 #[.pointer (some ⟨b, 0, none⟩)] w fun e w' => e = .returned (.int .i64 (l.length : Int)) ∧ w = w' := by
  refine (Tryz.Builder_Len B0 b (Lib.byteCells l) w h).mono ?_
  rintro e w' ⟨rfl, rfl⟩
  exact ⟨by simp [Lib.byteCells], rfl⟩
theorem isB_below {B0 b : Nat} {l : Txt} {w w' : World} (h : IsB B0 b l w) (hb : Below w.heap.size w w') : IsB B0 b l w' := by
  have key : ∀ p, Lib.BuilderAt 46 5 B0 b p (Lib.byteCells l) w → Lib.BuilderAt 46 5 B0 b p (Lib.byteCells l) w' := by
    intro p h
    have hlt := h.lt
    obtain ⟨h1, v, h2, h3, h4⟩ := h
    refine ⟨h1, v, (hb.block _ hlt).trans h2, ?_, h4⟩
    exact h3.kept (row := none) ⟨hb.os, hb.tape, hb.output, hb.size, fun k hk _ => hb.block k hk⟩ (Classical.em _)
  rcases h with h | h
  · exact .inl (key _ h)
  · exact .inr (key _ h)
set_option maxRecDepth 100000 in
set_option maxHeartbeats 4000000 in
theorem Expand_any (L : List Lev) (v : Value) (text : Txt) (hl : text.length < 1000000000) (hT : ∀ k, (getL L k).length < 1000000000) (w : World) (hC : Chain w L v) :
    Calls Tryz.prog 77 #[v, .string (B text)] w fun e w' => e = .returned (.tuple #[.string (B (expandL L text).1), .int .i64 (expandL L text).2]) ∧ Below w.heap.size w w' := by
  obtain ⟨R, hR⟩ : ∃ R, expandL L text = R := ⟨_, rfl⟩
  rw [hR]
  have HR := Lib.hid hR
  have hCC := Lib.hid hC
  clear hR hC
  go_enter Tryz.func77, Tryz.ntmps77
  go_wp2
  go_loopg [1, 7] text.length (fun gk s1 s7 wr => ∃ (tx out : Txt) (lg : Bool), s1 = .string (B tx) ∧ s7 = .bool lg ∧ tx.length ≤ gk ∧ tx.length < 1000000000 ∧ out.length + tx.length < 1000020000 ∧
      Hid (finL (expGo L (gk + 1) tx out lg) = R) ∧ Hid (IsB w.heap.size w.heap.size out wr) ∧ Hid (Below w.heap.size w wr))
  case atStart =>
    refine ⟨text, [], false, rfl, rfl, Nat.le_refl _, hl, by simp; omega, HR.out, ?_, (Below.refl _ w).alloc (Nat.le_refl _) _⟩
    refine .inl ⟨Nat.le_refl _, .slice none 0 0, heap_alloc_new _ _, own_nil _ _ _ _, by simp [Value.ownBlock]⟩
  case round =>
    obtain ⟨tx, out, lg, rfl, rfl, hgk, htl, hol, hG, hI, hB⟩ := hrel
    have hCut := Lib.hid (fun W => cut_any 36 tx (by omega) W)
    obtain ⟨pl, rs, is, hcut⟩ : ∃ pl rs is, cutL 36 tx = (pl, rs, is) := ⟨_, _, _, rfl⟩
    obtain ⟨ow, lf, ok, hdol⟩ : ∃ ow lf ok, dollarL L rs = (ow, lf, ok) := ⟨_, _, _, rfl⟩
    have hexp := expGo_succ L gk tx out lg hcut hdol
    have hE := Lib.hid hexp
    clear hexp
    have hpl : pl.length ≤ tx.length ∧ rs.length ≤ tx.length := by
      have := cutL_len 36 tx
      rw [hcut] at this
      exact this
    have hsum : is = true → pl.length + 1 + rs.length = tx.length := by
      have := cutL_some_len 36 tx
      rw [hcut] at this
      exact this
    have hlf : lf.length ≤ rs.length := by
      have := dollarL_len L rs
      rw [hdol] at this
      exact this
    have how : ow.length < 1000000000 := by
      have := dollarL_own L hT rs
      rw [hdol] at this
      exact this
    rw [hcut] at hCut
    have hDol := Lib.hid (fun (W : World) (hW : Chain W L v) => dollar_any L v rs (by omega) W hW)
    rw [hdol] at hDol
    have hWr := Lib.hid (fun (W : World) (h : IsB w.heap.size w.heap.size out W) (hb : Below w.heap.size w W) => write w.heap.size w.heap.size out pl W h (by omega) hb.size)
    have hWo := Lib.hid (fun (W : World) (h : IsB w.heap.size w.heap.size (out ++ pl) W) (hb : Below w.heap.size w W) => write w.heap.size w.heap.size (out ++ pl) ow W h (by rw [List.length_append]; omega) hb.size)
    have hLn := Lib.hid (fun (W : World) (h : IsB w.heap.size w.heap.size (out ++ pl) W) => Len_any w.heap.size w.heap.size (out ++ pl) W h)
    have hSt := Lib.hid (fun (W : World) (h : IsB w.heap.size w.heap.size (out ++ pl) W) (hb : Below w.heap.size w W) => Tryz.Builder_String_any w.heap.size w.heap.size (out ++ pl) W h hb.size)
    have hopl : (out ++ pl).length ≤ 1000020000 := by rw [List.length_append]; omega
    obtain ⟨N, hN⟩ : ∃ N, (out ++ pl).length = N := ⟨_, rfl⟩
    have hows : (B ow).size = ow.length := size_B ow
    rw [hN] at hopl
    simp only [hN] at hLn
    clear hcut hdol
    cases is with
    | false =>
      cases lg with
      | true =>
        have hfin : Hid (R = ([], 3)) := by
          rw [← hG.out, hE.out]; rfl
        go_wp2_with fail
        refine (hCut.out _).mono ?_
        rintro e w1 ⟨rfl, hb1⟩
        have hI1 := Lib.hid (isB_below hI.out hb1)
        have hB1 := Lib.hid (hB.out.trans (hb1.mono hB.out.size))
        go_wp2_with fail
        refine (hWr.out _ hI1.out hB1.out).mono ?_
        rintro e w2 ⟨rfl, hi2, hb2⟩
        have hI2 := Lib.hid hi2
        have hB2 := Lib.hid (hB1.out.trans hb2)
        clear hi2 hb1 hb2
        go_wp2_with fail
        go_ret2
        rw [hfin.out]
        exact ⟨rfl, hB2.out⟩
      | false =>
        by_cases hbig : 16384 < N
        · have hfin : Hid (R = ([], 3)) := by
            show R = _
            rw [← hG.out, hE.out]; simp [finL, hN, hbig]
          have hd : decide ((16384 : Int) < (N : Int)) = true := by rw [decide_eq_true_iff]; omega
          go_wp2_with fail
          refine (hCut.out _).mono ?_
          rintro e w1 ⟨rfl, hb1⟩
          have hI1 := Lib.hid (isB_below hI.out hb1)
          have hB1 := Lib.hid (hB.out.trans (hb1.mono hB.out.size))
          go_wp2_with fail
          refine (hWr.out _ hI1.out hB1.out).mono ?_
          rintro e w2 ⟨rfl, hi2, hb2⟩
          have hI2 := Lib.hid hi2
          have hB2 := Lib.hid (hB1.out.trans hb2)
          clear hi2 hb1 hb2
          go_wp2_with fail
          refine (hLn.out _ hI2.out).mono ?_
          rintro e w3 ⟨rfl, rfl⟩
          go_wp2_with fail
          go_ret2
          rw [hfin.out]
          exact ⟨rfl, hB2.out⟩
        · have hfin : Hid (R = (out ++ pl, 0)) := by
            show R = _
            rw [← hG.out, hE.out]; simp [finL, hN, hbig]
          have hd : decide ((16384 : Int) < (N : Int)) = false := by rw [decide_eq_false_iff_not]; omega
          go_wp2_with fail
          refine (hCut.out _).mono ?_
          rintro e w1 ⟨rfl, hb1⟩
          have hI1 := Lib.hid (isB_below hI.out hb1)
          have hB1 := Lib.hid (hB.out.trans (hb1.mono hB.out.size))
          go_wp2_with fail
          refine (hWr.out _ hI1.out hB1.out).mono ?_
          rintro e w2 ⟨rfl, hi2, hb2⟩
          have hI2 := Lib.hid hi2
          have hB2 := Lib.hid (hB1.out.trans hb2)
          clear hi2 hb1 hb2
          go_wp2_with fail
          refine (hLn.out _ hI2.out).mono ?_
          rintro e w3 ⟨rfl, rfl⟩
          go_wp2_with fail
          refine (hSt.out _ hI2.out hB2.out).mono ?_
          rintro e w3 ⟨rfl, hb3⟩
          have hB3 := Lib.hid (hB2.out.trans hb3)
          clear hb3
          go_wp2_with fail
          go_ret2
          rw [hfin.out]
          exact ⟨rfl, hB3.out⟩
    | true =>
      cases ok with
      | false =>
        have hfin : Hid (R = ([], 10)) := by
          rw [← hG.out, hE.out]; rfl
        go_wp2_with fail
        refine (hCut.out _).mono ?_
        rintro e w1 ⟨rfl, hb1⟩
        have hI1 := Lib.hid (isB_below hI.out hb1)
        have hB1 := Lib.hid (hB.out.trans (hb1.mono hB.out.size))
        go_wp2_with fail
        refine (hWr.out _ hI1.out hB1.out).mono ?_
        rintro e w2 ⟨rfl, hi2, hb2⟩
        have hI2 := Lib.hid hi2
        have hB2 := Lib.hid (hB1.out.trans hb2)
        clear hi2 hb1 hb2
        go_wp2_with fail
        refine (hDol.out _ (hCC.out.below hB2.out)).mono ?_
        rintro e w3 ⟨rfl, hb3⟩
        have hB3 := Lib.hid (hB2.out.trans (hb3.mono hB2.out.size))
        clear hb3
        go_wp2_with fail
        go_ret2
        rw [hfin.out]
        exact ⟨rfl, hB3.out⟩
      | true =>
        have hs := hsum rfl
        cases gk with
        | zero => omega
        | succ gk =>
        cases lg with
        | true =>
          have hG' : Hid (finL (expGo L (gk + 1) lf (out ++ pl) true) = R) := by
            have := hG.out
            rw [hE.out] at this
            show finL _ = R
            simpa using this
          go_wp2_with fail
          refine (hCut.out _).mono ?_
          rintro e w1 ⟨rfl, hb1⟩
          have hI1 := Lib.hid (isB_below hI.out hb1)
          have hB1 := Lib.hid (hB.out.trans (hb1.mono hB.out.size))
          go_wp2_with fail
          refine (hWr.out _ hI1.out hB1.out).mono ?_
          rintro e w2 ⟨rfl, hi2, hb2⟩
          have hI2 := Lib.hid hi2
          have hB2 := Lib.hid (hB1.out.trans hb2)
          clear hi2 hb1 hb2
          go_wp2_with fail
          refine (hDol.out _ (hCC.out.below hB2.out)).mono ?_
          rintro e w3 ⟨rfl, hb3⟩
          have hB3 := Lib.hid (hB2.out.trans (hb3.mono hB2.out.size))
          have hI3 := Lib.hid (isB_below hI2.out hb3)
          clear hb3
          go_wp2_with fail
          go_roundg gk
          case measure => omega
          case rel => exact ⟨lf, out ++ pl, true, rfl, rfl, by omega, by omega, by rw [hN]; rw [List.length_append] at hN; omega, hG', hI3, hB3⟩
        | false =>
          by_cases hbig : 16384 < N + ow.length
          · have hG' : Hid (finL (expGo L (gk + 1) lf (out ++ pl) true) = R) := by
              have := hG.out
              rw [hE.out] at this
              show finL _ = R
              simpa [hN, hbig] using this
            have hd : decide ((16384 : Int) < (N : Int) + (ow.length : Int)) = true := by rw [decide_eq_true_iff]; omega
            go_wp2_with fail
            refine (hCut.out _).mono ?_
            rintro e w1 ⟨rfl, hb1⟩
            have hI1 := Lib.hid (isB_below hI.out hb1)
            have hB1 := Lib.hid (hB.out.trans (hb1.mono hB.out.size))
            go_wp2_with fail
            refine (hWr.out _ hI1.out hB1.out).mono ?_
            rintro e w2 ⟨rfl, hi2, hb2⟩
            have hI2 := Lib.hid hi2
            have hB2 := Lib.hid (hB1.out.trans hb2)
            clear hi2 hb1 hb2
            go_wp2_with fail
            refine (hDol.out _ (hCC.out.below hB2.out)).mono ?_
            rintro e w3 ⟨rfl, hb3⟩
            have hB3 := Lib.hid (hB2.out.trans (hb3.mono hB2.out.size))
            have hI3 := Lib.hid (isB_below hI2.out hb3)
            clear hb3
            go_wp2_with fail
            refine (hLn.out _ hI3.out).mono ?_
            rintro e w4 ⟨rfl, rfl⟩
            go_wp2_with fail
            go_roundg gk
            case measure => omega
            case rel => exact ⟨lf, out ++ pl, true, rfl, rfl, by omega, by omega, by rw [hN]; rw [List.length_append] at hN; omega, hG', hI3, hB3⟩
          · have hG' : Hid (finL (expGo L (gk + 1) lf (out ++ pl ++ ow) false) = R) := by
              have := hG.out
              rw [hE.out] at this
              show finL _ = R
              simpa [hN, hbig] using this
            have hd : decide ((16384 : Int) < (N : Int) + (ow.length : Int)) = false := by rw [decide_eq_false_iff_not]; omega
            go_wp2_with fail
            refine (hCut.out _).mono ?_
            rintro e w1 ⟨rfl, hb1⟩
            have hI1 := Lib.hid (isB_below hI.out hb1)
            have hB1 := Lib.hid (hB.out.trans (hb1.mono hB.out.size))
            go_wp2_with fail
            refine (hWr.out _ hI1.out hB1.out).mono ?_
            rintro e w2 ⟨rfl, hi2, hb2⟩
            have hI2 := Lib.hid hi2
            have hB2 := Lib.hid (hB1.out.trans hb2)
            clear hi2 hb1 hb2
            go_wp2_with fail
            refine (hDol.out _ (hCC.out.below hB2.out)).mono ?_
            rintro e w3 ⟨rfl, hb3⟩
            have hB3 := Lib.hid (hB2.out.trans (hb3.mono hB2.out.size))
            have hI3 := Lib.hid (isB_below hI2.out hb3)
            clear hb3
            go_wp2_with fail
            refine (hLn.out _ hI3.out).mono ?_
            rintro e w4 ⟨rfl, rfl⟩
            go_wp2_with fail
            refine (hWo.out _ hI3.out hB3.out).mono ?_
            rintro e w5 ⟨rfl, hi5, hb5⟩
            have hI5 := Lib.hid hi5
            have hB5 := Lib.hid (hB3.out.trans hb5)
            clear hi5 hb5
            go_wp2_with fail
            go_roundg gk
            case measure => omega
            case rel => exact ⟨lf, out ++ pl ++ ow, false, rfl, rfl, by omega, by omega, by rw [List.length_append, hN]; omega, hG', hI5, hB5⟩
end Go.Proofs.YtbjekebkgidhaaaGreatDoor.Sc
end
section
set_option linter.unusedSimpArgs false
set_option linter.unusedVariables false
namespace Go.Proofs.YtbjekebkgidhaaaGreatDoor.Sc
open Go.RowKit Go.Lib Go.Shelf Go.Proofs.YtbjekebkgidhaaaGreatDoorW.PrintWords Go.Proofs.YtbjekebkgidhaaaGreatDoor.U Go.Proofs.YtbjekebkgidhaaaGreatDoor.Idx
section
variable {L : List Lev}
theorem expGo_fuel : ∀ (n : Nat) (text : Txt), text.length ≤ n → ∀ f g out long, text.length < f → text.length < g → expGo L f text out long = expGo L g text out long := by
  intro n
  induction n with
  | zero =>
    intro text hn f g out long hf hg
    obtain rfl : text = [] := List.length_eq_zero_iff.1 (by omega)
    obtain ⟨f, rfl⟩ : ∃ x, f = x + 1 := ⟨f - 1, by omega⟩
    obtain ⟨g, rfl⟩ : ∃ x, g = x + 1 := ⟨g - 1, by omega⟩
    rw [expGo, expGo]; simp [cutL]
  | succ n ih =>
    intro text hn f g out long hf hg
    obtain ⟨f, rfl⟩ : ∃ x, f = x + 1 := ⟨f - 1, by omega⟩
    obtain ⟨g, rfl⟩ : ∃ x, g = x + 1 := ⟨g - 1, by omega⟩
    rw [expGo, expGo]
    cases hc : (cutL 36 text).2.2 with
    | false => rfl
    | true =>
      have h1 := cutL_some_len 36 text hc
      have h2 := dollarL_len L (cutL 36 text).2.1
      have hlt : (dollarL L (cutL 36 text).2.1).2.1.length ≤ n := by omega
      rw [ih _ hlt f g _ _ (by omega) (by omega), ih _ hlt f g _ _ (by omega) (by omega)]
def E (L : List Lev) (text out : Txt) (long : Bool) : Option (Txt × Bool) := expGo L (text.length + 1) text out long
theorem expandL_E (L : List Lev) (text : Txt) : expandL L text = finL (E L text [] false) := rfl
theorem E_nil (out : Txt) (long : Bool) : E L [] out long = some (out, long) := by
  rw [E, expGo]; simp [cutL]
theorem E_char {c : UInt8} (hc : c ≠ 36) (t out : Txt) (long : Bool) : E L (c :: t) out long = E L t (out ++ [c]) long := by
  have e : cutL 36 (c :: t) = (c :: (cutL 36 t).1, (cutL 36 t).2.1, (cutL 36 t).2.2) := by rw [cutL, if_neg hc]
  rw [E, List.length_cons, expGo_fuel (t.length + 1) (c :: t) (by simp) (t.length + 1 + 1) (t.length + 1 + 1 + 1) out long (by simp) (by simp)]
  rw [E, expGo_fuel t.length t (Nat.le_refl _) (t.length + 1) (t.length + 1 + 1 + 1) (out ++ [c]) long (by omega) (by omega)]
  have e2 : out ++ c :: (cutL 36 t).1 = out ++ [c] ++ (cutL 36 t).1 := by simp
  obtain ⟨⟨pl, rs, is⟩, h1⟩ : ∃ x, cutL 36 t = x := ⟨_, rfl⟩
  obtain ⟨⟨ow, lf, ok⟩, h2⟩ : ∃ x, dollarL L rs = x := ⟨_, rfl⟩
  rw [h1] at e e2
  rw [expGo_succ L _ (c :: t) out long e h2, expGo_succ L _ t (out ++ [c]) long h1 h2]
  simp only at e2
  rw [e2]
theorem E_dollar (t out : Txt) (long : Bool) {ow lf : Txt} {ok : Bool} (h : dollarL L t = (ow, lf, ok)) :
    E L (36 :: t) out long = if ok = false then none else if long = true ∨ 16384 < out.length + ow.length then E L lf out true else E L lf (out ++ ow) false := by
  have hl : lf.length ≤ t.length := by have := dollarL_len L t; rw [h] at this; exact this
  rw [E, expGo_succ L (36 :: t).length (36 :: t) out long (show cutL 36 (36 :: t) = ([], t, true) by rw [cutL, if_pos rfl]) h, if_neg (by simp), List.append_nil]
  rw [E, E, expGo_fuel t.length lf hl (36 :: t).length (lf.length + 1) _ _ (by simp; omega) (by omega), expGo_fuel t.length lf hl (36 :: t).length (lf.length + 1) _ _ (by simp; omega) (by omega)]
def R (L : List Lev) (a : Txt) (r : Option Txt) : Prop := (∀ out : Txt, out.length + 50 * a.length ≤ 16384 → E L a out false = r.map fun x => (out ++ x, false)) ∧ ∀ x, r = some x → x.length ≤ 50 * a.length
end
end Go.Proofs.YtbjekebkgidhaaaGreatDoor.Sc
end
section
set_option linter.unusedSimpArgs false
set_option linter.unusedVariables false
namespace Go.Proofs.YtbjekebkgidhaaaGreatDoor.Ln
open Go.RowKit Go.Lib Go.Shelf Go.Proofs.YtbjekebkgidhaaaGreatDoorW.PrintWords Go.Proofs.YtbjekebkgidhaaaGreatDoor.U
abbrev Txt := List UInt8
def trimL (c : UInt8) (l : Txt) : Txt := Lib.trimLeftB l c
def trimR (c : UInt8) (l : Txt) : Txt := Lib.trimRightB l c
theorem trimL_len (c : UInt8) (l : Txt) : (trimL c l).length ≤ l.length := (List.dropWhile_sublist _).length_le
theorem trimR_len (c : UInt8) (l : Txt) : (trimR c l).length ≤ l.length := by
  unfold trimR Lib.trimRightB
  rw [List.length_reverse]
  have := (List.dropWhile_sublist (l := l.reverse) (· == c)).length_le
  rw [List.length_reverse] at this
  exact this
theorem TrimLeft_any (c : UInt8) (hc : c.toNat < 128) (l : Txt) (w : World) : Calls Tryz.prog 36 #[.string (B l), .string (B [c])] w fun e w' => e = .returned (.string (B (trimL c l))) ∧ w = w' := by
  refine (Tryz.strings_TrimLeft_one (B l) c hc w).mono ?_
  rintro e w' ⟨rfl, rfl⟩
  exact ⟨rfl, rfl⟩
theorem TrimRight_any (c : UInt8) (hc : c.toNat < 128) (l : Txt) (hl : l.length < 4611686018427387904) (w : World) : Calls Tryz.prog 66 #[.string (B l), .string (B [c])] w fun e w' => e = .returned (.string (B (trimR c l))) ∧ w = w' := by
  refine (Tryz.strings_TrimRight_one (B l) c hc w (by rw [size_B]; omega)).mono ?_
  rintro e w' ⟨rfl, rfl⟩
  exact ⟨rfl, rfl⟩
def oddL (l : Txt) : Bool := decide ((l.length - (trimR 36 l).length) % 2 = 1)
set_option maxRecDepth 100000 in
set_option maxHeartbeats 2000000 in
theorem unpaired_any (l : Txt) (hl : l.length < 4611686018427387904) (w : World) :
    Calls Tryz.prog 38 #[.string (B l)] w fun e w' => e = .returned (.bool (oddL l)) ∧ w = w' := by
  have hT := Lib.hid (TrimRight_any 36 (by decide) l hl)
  have h1 := trimR_len 36 l
  have s1 : (B l).size = l.length := size_B l
  have s2 : (B (trimR 36 l)).size = (trimR 36 l).length := size_B _
  have hO : Hid (oddL l = decide ((l.length - (trimR 36 l).length) % 2 = 1)) := rfl
  generalize trimR 36 l = t at *
  have hm : Hid (Int.tmod ((l.length : Int) - (t.length : Int)) 2 = (((l.length - t.length) % 2 : Nat) : Int)) := by
    show Int.tmod _ _ = _
    rw [Int.tmod_eq_emod_of_nonneg (by omega)]; omega
  go_enter Tryz.func38, Tryz.ntmps38
  go_wp2_with fail
  refine (hT.out _).mono ?_
  rintro e w' ⟨rfl, rfl⟩
  go_wp2_with fail
  go_ret
  refine ⟨?_, rfl⟩
  rw [hO.out]
  have e : (((l.length : Int) - (t.length : Int)) % 2 == 1) = decide ((l.length - t.length) % 2 = 1) := by
    rw [Bool.eq_iff_iff, beq_iff_eq, decide_eq_true_iff]; omega
  show Ending.returned (.bool (((l.length : Int) - (t.length : Int)) % 2 == 1)) = _
  rw [e]
def emptyL (l : Txt) : Bool := match trimL 32 l with | [] => true | c :: _ => c == 35
set_option maxRecDepth 100000 in
set_option maxHeartbeats 2000000 in
theorem empty_any (l : Txt) (w : World) :
    Calls Tryz.prog 37 #[.string (B l)] w fun e w' => e = .returned (.bool (emptyL l)) ∧ w = w' := by
  have hT := Lib.hid (TrimLeft_any 32 (by decide) l)
  have hE : Hid (emptyL l = match trimL 32 l with | [] => true | c :: _ => c == 35) := rfl
  generalize trimL 32 l = t at *
  cases t with
  | nil =>
    go_enter Tryz.func37, Tryz.ntmps37
    go_wp2_with fail
    refine (hT.out _).mono ?_
    rintro e w' ⟨rfl, rfl⟩
    go_wp2_with fail
    go_ret
    exact ⟨by rw [hE.out]; rfl, rfl⟩
  | cons c t =>
    have h0 : ∀ h : 0 < (B (c :: t)).size, (((B (c :: t))[0]'h).toNat : Int) = (c.toNat : Int) := fun h => rfl
    have hsB : (B (c :: t)).size = t.length + 1 := by rw [size_B]; rfl
    have hne2 : (B (c :: t)).toList.isEmpty = false := by rw [toList_B]; rfl
    have hcr := c.toNat_lt
    by_cases h35 : c = 35
    · subst h35
      go_enter Tryz.func37, Tryz.ntmps37
      go_wp2_with fail
      refine (hT.out _).mono ?_
      rintro e w' ⟨rfl, rfl⟩
      go_wp2_with fail
      go_ret
      exact ⟨by rw [hE.out]; rfl, rfl⟩
    · have n35 : ((c.toNat : Int) == 35) = false := by rw [beq_eq_false_iff_ne]; exact byte_ne (d := 35) h35
      have e35 : (c == 35) = false := by rw [beq_eq_false_iff_ne]; exact h35
      go_enter Tryz.func37, Tryz.ntmps37
      go_wp2_with fail
      refine (hT.out _).mono ?_
      rintro e w' ⟨rfl, rfl⟩
      go_wp2_with fail
      go_ret
      exact ⟨by rw [hE.out]; simp only [e35]; rfl, rfl⟩
def trimmedL (l : Txt) : Txt := if (trimR 32 (trimL 32 l)).length < (trimL 32 l).length ∧ oddL (trimR 32 (trimL 32 l)) = true then trimR 32 (trimL 32 l) ++ [32] else trimR 32 (trimL 32 l)
set_option maxRecDepth 100000 in
set_option maxHeartbeats 2000000 in
theorem trimmed_any (l : Txt) (hl : l.length < 4611686018427387904) (w : World) :
    Calls Tryz.prog 39 #[.string (B l)] w fun e w' => e = .returned (.string (B (trimmedL l))) ∧ w = w' := by
  have hT := Lib.hid (TrimLeft_any 32 (by decide) l)
  have h1 := trimL_len 32 l
  have hE : Hid (trimmedL l = if (trimR 32 (trimL 32 l)).length < (trimL 32 l).length ∧ oddL (trimR 32 (trimL 32 l)) = true then trimR 32 (trimL 32 l) ++ [32] else trimR 32 (trimL 32 l)) := rfl
  generalize trimL 32 l = s at *
  have hR := Lib.hid (TrimRight_any 32 (by decide) s (by omega))
  have h2 := trimR_len 32 s
  generalize trimR 32 s = t at *
  have hU := Lib.hid (unpaired_any t (by omega))
  have s1 : (B s).size = s.length := size_B s
  have s2 : (B t).size = t.length := size_B t
  by_cases hlt : t.length < s.length
  · have hd : decide ((t.length : Int) < (s.length : Int)) = true := by rw [decide_eq_true_iff]; omega
    cases ho : oddL t with
    | true =>
      have hE2 : Hid (trimmedL l = t ++ [32]) := by show _ = _; rw [hE.out, if_pos ⟨hlt, ho⟩]
      rw [ho] at hU
      have hap : B t ++ (⟨#[32]⟩ : ByteArray) = B (t ++ [32]) := by
        show B t ++ B [32] = _
        rw [B_append]
      have hAP := Lib.hid hap
      clear hap
      go_enter Tryz.func39, Tryz.ntmps39
      go_wp2_with fail
      refine (hT.out _).mono ?_
      rintro e w1 ⟨rfl, rfl⟩
      go_wp2_with fail
      refine (hR.out _).mono ?_
      rintro e w1 ⟨rfl, rfl⟩
      go_wp2_with fail
      refine (hU.out _).mono ?_
      rintro e w1 ⟨rfl, rfl⟩
      go_wp2_with fail
      go_ret
      refine ⟨?_, rfl⟩
      rw [hE2.out, ← hAP.out]; rfl
    | false =>
      have hE2 : Hid (trimmedL l = t) := by show _ = _; rw [hE.out, if_neg (by simp [ho])]
      rw [ho] at hU
      go_enter Tryz.func39, Tryz.ntmps39
      go_wp2_with fail
      refine (hT.out _).mono ?_
      rintro e w1 ⟨rfl, rfl⟩
      go_wp2_with fail
      refine (hR.out _).mono ?_
      rintro e w1 ⟨rfl, rfl⟩
      go_wp2_with fail
      refine (hU.out _).mono ?_
      rintro e w1 ⟨rfl, rfl⟩
      go_wp2_with fail
      go_ret
      exact ⟨by rw [hE2.out]; rfl, rfl⟩
  · have hd : decide ((t.length : Int) < (s.length : Int)) = false := by rw [decide_eq_false_iff_not]; omega
    have hE2 : Hid (trimmedL l = t) := by show _ = _; rw [hE.out, if_neg (by simp [hlt])]
    go_enter Tryz.func39, Tryz.ntmps39
    go_wp2_with fail
    refine (hT.out _).mono ?_
    rintro e w1 ⟨rfl, rfl⟩
    go_wp2_with fail
    refine (hR.out _).mono ?_
    rintro e w1 ⟨rfl, rfl⟩
    go_wp2_with fail
    go_ret
    exact ⟨by rw [hE2.out]; rfl, rfl⟩
end Go.Proofs.YtbjekebkgidhaaaGreatDoor.Ln
end
section
set_option linter.unusedSimpArgs false
set_option linter.unusedVariables false
namespace Go.Proofs.YtbjekebkgidhaaaGreatDoor.Ln
open Go.RowKit Go.Lib Go.Shelf Go.Proofs.YtbjekebkgidhaaaGreatDoorW.PrintWords Go.Proofs.YtbjekebkgidhaaaGreatDoor.U Go.Proofs.YtbjekebkgidhaaaGreatDoor.Idx
def spl (c : UInt8) : Txt → List Txt
  | [] => [[]]
  | b :: l => if b = c then [] :: spl c l else match spl c l with
    | [] => [[b]]
    | p :: ps => (b :: p) :: ps
theorem spl_ne (c : UInt8) (l : Txt) : spl c l ≠ [] := by
  cases l with
  | nil => simp [spl]
  | cons b l =>
    unfold spl; split
    · simp
    · split <;> simp
theorem spl_none (c : UInt8) (l : Txt) (h : c ∉ l) : spl c l = [l] := by
  induction l with
  | nil => rfl
  | cons b l ih =>
    have h1 : b ≠ c := fun e => h (by simp [e])
    rw [spl, if_neg h1, ih (fun e => h (by simp [e]))]
theorem spl_at (c : UInt8) (a l : Txt) (h : c ∉ a) : spl c (a ++ c :: l) = a :: spl c l := by
  induction a with
  | nil => simp [spl]
  | cons b a ih =>
    have h1 : b ≠ c := fun e => h (by simp [e])
    rw [List.cons_append, spl, if_neg h1, ih (fun e => h (by simp [e]))]
theorem idx_cases (l : Txt) (c : UInt8) : (Lib.indexByte l c = -1 ∧ c ∉ l) ∨ ∃ a r, l = a ++ c :: r ∧ c ∉ a ∧ Lib.indexByte l c = (a.length : Int) := by
  induction l with
  | nil => exact .inl ⟨rfl, by simp⟩
  | cons b l ih =>
    by_cases hb : b = c
    · exact .inr ⟨[], l, by simp [hb], by simp, by simp [Lib.indexByte, hb]⟩
    · rcases ih with ⟨h1, h2⟩ | ⟨a, r, rfl, h2, h3⟩
      · exact .inl ⟨by simp [Lib.indexByte, hb, h1], by simp [h2, Ne.symm hb]⟩
      · exact .inr ⟨b :: a, r, by simp, by simp [h2, Ne.symm hb], by simp [Lib.indexByte, hb, h3] <;> omega⟩
theorem splitK_spl (c : UInt8) (n : Nat) : ∀ l : Txt, l.length ≤ n → Lib.splitK [c] 0 (l.count c) l = spl c l := by
  induction n with
  | zero =>
    intro l hl
    obtain rfl := List.length_eq_zero_iff.1 (Nat.le_zero.1 hl)
    rfl
  | succ n ih =>
    intro l hl
    rcases idx_cases l c with ⟨_, h2⟩ | ⟨a, r, rfl, h2, h3⟩
    · rw [List.count_eq_zero.2 h2, spl_none c l h2]; rfl
    · have hc : (a ++ c :: r).count c = r.count c + 1 := by rw [List.count_append, List.count_cons_self, List.count_eq_zero.2 h2]; omega
      have hi : Lib.index (a ++ c :: r) [c] = (a.length : Int) := by rw [Lib.index_one, h3]
      have hne : ((a.length : Int) == -1) = false := by rw [beq_eq_false_iff_ne]; omega
      rw [List.length_append, List.length_cons] at hl
      rw [hc, Lib.splitK, hi, hne, spl_at c a r h2]
      have hd : (a ++ c :: r).drop (a.length + 1) = r := by rw [show a ++ c :: r = (a ++ [c]) ++ r by simp, List.drop_left' (by simp)]
      simp only [Bool.false_eq_true, if_false, Int.toNat_natCast, Nat.add_zero, List.length_singleton, List.take_left, hd, ih r (by omega)]
theorem splitB_spl (c : UInt8) (l : Txt) : Lib.splitB (B [c]) 0 (l.count c) (B l) = (spl c l).map B := by
  have h := Lib.splitB_data (B [c]) 0 (l.count c) (B l)
  rw [show (B [c]).data.toList = [c] from rfl, data_B, splitK_spl c l.length l (Nat.le_refl _)] at h
  have h2 := congrArg (List.map B) h
  rw [List.map_map] at h2
  rw [← h2]
  conv => lhs; rw [← List.map_id (Lib.splitB (B [c]) 0 (l.count c) (B l))]
  apply List.map_congr_left
  intro s _
  exact B_of s
theorem spl_len (c : UInt8) (l : Txt) : (spl c l).length = l.count c + 1 := by
  induction l with
  | nil => rfl
  | cons b l ih =>
    rw [spl]
    by_cases hb : b = c
    · subst hb; rw [if_pos rfl, List.length_cons, ih, List.count_cons_self]
    · rw [if_neg hb, List.count_cons_of_ne hb, ← ih]
      cases h : spl c l with
      | nil => exact absurd h (spl_ne c l)
      | cons p ps => rfl
theorem Split_any (c : UInt8) (l : Txt) (hl : l.length < 4294967281) (w : World) (hm : ∃ m, w.cell? ⟨1, 0, none⟩ = some (.int .i64 m)) :
    Calls Tryz.prog 34 #[.string (B l), .string (B [c])] w fun e w' =>
      e = .returned (.slice (some ⟨w.heap.size, 0, none⟩) (spl c l).length (spl c l).length) ∧ w.alloc (.cells (((spl c l).map B).map Value.string).toArray 9) = w' := by
  obtain ⟨m, hm⟩ := hm
  have hc : Lib.countB (B l) (B [c]) = l.count c := Lib.count_one c l
  refine (Tryz.strings_Split (B l) (B [c]) m w (by rw [size_B]; exact hl) hm (by rw [size_B]; exact Nat.le_refl 1)).mono ?_
  rw [hc, splitB_spl, ← spl_len]
  rintro e w' ⟨rfl, rfl⟩
  exact ⟨rfl, rfl⟩
def okR (c : Nat) : Bool := decide (32 ≤ c) && decide (c < 127)
theorem okR_beyond (c : Nat) (h : 128 ≤ c) : okR c = false := by
  have : ¬ c < 127 := by omega
  simp [okR, this]
set_option maxRecDepth 100000 in
set_option maxHeartbeats 2000000 in
theorem bad_grows (w : World) : PredGrows Tryz.prog 33 #[] (fun c => !okR c) w := by
  intro W x hx hb
  show Calls Tryz.prog _ _ W fun e w' => e = .returned (.bool (!okR x)) ∧ Below W.heap.size W w'
  rcases (show x < 32 ∨ (32 ≤ x ∧ x < 127) ∨ 127 ≤ x by omega) with h | ⟨h1, h2⟩ | h
  · have e : (!okR x) = true := by
      have : ¬ 32 ≤ x := by omega
      simp [okR, this]
    have d1 : decide ((x : Int) < 32) = true := by rw [decide_eq_true_iff]; omega
    rw [e]
    go_enter Tryz.func33, Tryz.ntmps33
    go_wp2_with fail
    go_ret
    exact ⟨rfl, Below.refl _ _⟩
  · have e : (!okR x) = false := by simp [okR, h1, h2]
    have d1 : decide ((x : Int) < 32) = false := by rw [decide_eq_false_iff_not]; omega
    have d2 : decide (127 ≤ (x : Int)) = false := by rw [decide_eq_false_iff_not]; omega
    rw [e]
    go_enter Tryz.func33, Tryz.ntmps33
    go_wp2_with fail
    go_ret
    exact ⟨rfl, Below.refl _ _⟩
  · have e : (!okR x) = true := by
      have : ¬ x < 127 := by omega
      simp [okR, this]
    have d1 : decide ((x : Int) < 32) = false := by rw [decide_eq_false_iff_not]; omega
    have d2 : decide (127 ≤ (x : Int)) = true := by rw [decide_eq_true_iff]; omega
    rw [e]
    go_enter Tryz.func33, Tryz.ntmps33
    go_wp2_with fail
    go_ret
    exact ⟨rfl, Below.refl _ _⟩
def okL (l : Txt) : Bool := l.all fun b => okR b.toNat
theorem bad_any (l : Txt) (w : World) :
    Calls Tryz.prog 35 #[.string (B l), .func (.func 33) #[] #[]] w fun e w' => e = .returned (.bool (!okL l)) ∧ Below w.heap.size w w' := by
  have h := Tryz.strings_ContainsFunc_grows 33 #[] (fun args w => by kernel_rfl) (fun c => !okR c) (B l) w (bad_grows w)
  have hi := idx_func okR okR_beyond l
  have hd : decide ((0 : Int) ≤ Lib.idxFunc (fun c => !okR c) true (B l)) = !okL l := by
    rw [hi, okL]
    cases l.all (fun b => okR b.toNat) with
    | true => rfl
    | false => simp <;> omega
  rw [hd] at h
  exact h
end Go.Proofs.YtbjekebkgidhaaaGreatDoor.Ln
end
section
set_option linter.unusedSimpArgs false
set_option linter.unusedVariables false
namespace Go.Proofs.YtbjekebkgidhaaaGreatDoor.Ln
open Go.RowKit Go.Lib Go.Shelf Go.Proofs.YtbjekebkgidhaaaGreatDoorW.PrintWords Go.Proofs.YtbjekebkgidhaaaGreatDoor.U Go.Proofs.YtbjekebkgidhaaaGreatDoor.Idx
structure LineT where
  inner : Bool
  text : Txt
  num : Nat
deriving DecidableEq
def opened (i : Nat) (s : Txt) : Option LineT → LineT
  | some o => { o with text := o.text ++ trimL 32 s }
  | none => ⟨s.head? == some 32, s, i + 1⟩
def linesGo (total : Nat) : List Txt → Nat → List LineT → Option LineT → Except Nat (List LineT)
  | [], _, out, _ => .ok out
  | s :: rest, i, out, op =>
    if okL s = false then .error (i + 1) else
    if op = none ∧ emptyL s = true then linesGo total rest (i + 1) out none else
    if oddL s = true then (if i + 1 = total then .error (i + 1) else linesGo total rest (i + 1) out (some { opened i s op with text := (opened i s op).text.dropLast }))
    else linesGo total rest (i + 1) (out ++ [{ opened i s op with text := trimmedL (opened i s op).text }]) none
def resL : Except Nat (List LineT) → List LineT × Nat × Int
  | .ok out => (out, 0, 0)
  | .error n => ([], n, 10)
def linesL (text : Txt) : List LineT × Nat × Int :=
  if 16384 < text.length then ([], 0, 3) else resL (linesGo (spl 10 text).length (spl 10 text) 0 [] none)
theorem odd_last (l : Txt) (h : oddL l = true) : ∃ p, l = p ++ [36] := by
  rcases List.eq_nil_or_concat l with rfl | ⟨p, b, rfl⟩
  · exact absurd h (by decide)
  · by_cases hb : b = 36
    · subst hb; exact ⟨p, by simp⟩
    · have : trimR 36 (p ++ [b]) = p ++ [b] := by
        have hb' : (b == 36) = false := by rw [beq_eq_false_iff_ne]; exact hb
        simp [trimR, Lib.trimRightB, List.dropWhile_cons, hb']
      rw [List.concat_eq_append, oddL, this] at h
      simp at h
theorem trimL_snoc (p : Txt) : ∃ q, trimL 32 (p ++ [36]) = q ++ [36] := by
  induction p with
  | nil => exact ⟨[], by decide⟩
  | cons b p ih =>
    by_cases hb : b = 32
    · subst hb
      obtain ⟨q, hq⟩ := ih
      refine ⟨q, ?_⟩
      rw [← hq]
      simp [trimL, Lib.trimLeftB, List.dropWhile_cons]
    · have hb' : (b == 32) = false := by rw [beq_eq_false_iff_ne]; exact hb
      exact ⟨b :: p, by simp [trimL, Lib.trimLeftB, List.dropWhile_cons, hb']⟩
theorem opened_ne (i : Nat) (s : Txt) (op : Option LineT) (h : oddL s = true) : (opened i s op).text ≠ [] := by
  obtain ⟨p, rfl⟩ := odd_last s h
  cases op with
  | none => simp [opened]
  | some o =>
    obtain ⟨q, hq⟩ := trimL_snoc p
    simp [opened, hq]
example : linesL [97, 36, 10, 32, 98, 10, 35, 10, 32, 99, 32] = ([⟨false, [97, 98], 1⟩, ⟨true, [99], 4⟩], 0, 0) := by decide +kernel
end Go.Proofs.YtbjekebkgidhaaaGreatDoor.Ln
end
section
set_option linter.unusedSimpArgs false
set_option linter.unusedVariables false
namespace Go.Proofs.YtbjekebkgidhaaaGreatDoor.Lex
open Go.RowKit Go.Proofs.YtbjekebkgidhaaaGreatDoorW.PrintWords Go.Proofs.YtbjekebkgidhaaaGreatDoor.U
def flushL (w : List UInt8) : List (List UInt8) := if w = [] then [] else [w]
def signL : List UInt8 → List UInt8
  | [] => []
  | [c] => if c = 124 ∨ c = 58 then [c] else []
  | c :: d :: _ => if c = 124 then (if d = 124 then [124, 124] else [124]) else if c = 58 then [58] else []
def wordsGo : List UInt8 → List UInt8 → List (List UInt8)
  | [], w => flushL w
  | [c], w => if c = 124 ∨ c = 58 then flushL w ++ [[c]] else if c = 32 then flushL w else [w ++ [c]]
  | c :: d :: r, w =>
    if c = 36 then wordsGo r (w ++ [36, d])
    else if c = 124 then (if d = 124 then flushL w ++ [124, 124] :: wordsGo r [] else flushL w ++ [124] :: wordsGo (d :: r) [])
    else if c = 58 then flushL w ++ [58] :: wordsGo (d :: r) []
    else if c = 32 then flushL w ++ wordsGo (d :: r) []
    else wordsGo (d :: r) (w ++ [c])
def words (s : List UInt8) : List (List UInt8) := wordsGo s []
theorem go_pair (d : UInt8) (r w : List UInt8) : wordsGo (36 :: d :: r) w = wordsGo r (w ++ [36, d]) := by rw [wordsGo]; simp
theorem go_bars (r w : List UInt8) : wordsGo (124 :: 124 :: r) w = flushL w ++ [124, 124] :: wordsGo r [] := by rw [wordsGo]; simp
theorem go_bar (r w : List UInt8) (h : ∀ x, r ≠ 124 :: x) : wordsGo (124 :: r) w = flushL w ++ [124] :: wordsGo r [] := by
  cases r with
  | nil => simp [wordsGo, flushL]
  | cons d r => rw [wordsGo]; simp; intro h1; exact absurd (h1 ▸ rfl) (h r)
theorem go_colon (r w : List UInt8) : wordsGo (58 :: r) w = flushL w ++ [58] :: wordsGo r [] := by
  cases r with
  | nil => simp [wordsGo, flushL]
  | cons d r => rw [wordsGo]; simp
theorem go_blank (r w : List UInt8) : wordsGo (32 :: r) w = flushL w ++ wordsGo r [] := by
  cases r with
  | nil => simp [wordsGo, flushL]
  | cons d r => rw [wordsGo]; simp
theorem sign_step (c : UInt8) (s w : List UInt8) (h : signL (c :: s) ≠ []) : ∃ rest, c :: s = signL (c :: s) ++ rest ∧ wordsGo (c :: s) w = flushL w ++ signL (c :: s) :: wordsGo rest [] ∧ c ≠ 36 := by
  cases s with
  | nil =>
    by_cases hc : c = 124 ∨ c = 58
    · refine ⟨[], by simp [signL, hc], ?_, ?_⟩
      · simp [wordsGo, signL, hc, flushL]
      · rcases hc with rfl | rfl <;> decide
    · simp [signL, hc] at h
  | cons d r =>
    by_cases h1 : c = 124
    · subst h1
      by_cases h2 : d = 124
      · subst h2; exact ⟨r, by simp [signL], by simp [signL, go_bars], by decide⟩
      · exact ⟨d :: r, by simp [signL, h2], by rw [go_bar _ _ (by intro x e; simp at e; exact h2 e.1)]; simp [signL, h2], by decide⟩
    · by_cases h2 : c = 58
      · subst h2; exact ⟨d :: r, by simp [signL], by rw [go_colon]; simp [signL], by decide⟩
      · simp [signL, h1, h2] at h
theorem sign_none (c : UInt8) (s : List UInt8) (h : signL (c :: s) = []) : c ≠ 124 ∧ c ≠ 58 := by
  cases s with
  | nil =>
    by_cases hc : c = 124 ∨ c = 58
    · simp [signL, hc] at h
    · exact ⟨fun e => hc (.inl e), fun e => hc (.inr e)⟩
  | cons d r =>
    constructor
    · rintro rfl; by_cases h2 : d = 124 <;> simp [signL, h2] at h
    · rintro rfl; simp [signL] at h
theorem flush_snoc (w : List UInt8) (c : UInt8) : flushL (w ++ [c]) = [w ++ [c]] := by simp [flushL]
theorem go_plain (c : UInt8) (r w : List UInt8) (h1 : c ≠ 36 ∨ r = []) (h2 : c ≠ 124) (h3 : c ≠ 58) (h4 : c ≠ 32) : wordsGo (c :: r) w = wordsGo r (w ++ [c]) := by
  cases r with
  | nil => simp [wordsGo, h2, h3, h4, flush_snoc]
  | cons d r =>
    rcases h1 with h1 | h1
    · rw [wordsGo]; simp [h1, h2, h3, h4]
    · cases h1
theorem flush_len (w : List UInt8) : (flushL w).length ≤ w.length := by
  unfold flushL; split
  · simp
  · rename_i h; have := List.length_pos_iff.2 h; simp; omega
theorem go_len (n : Nat) : ∀ (s w : List UInt8), s.length ≤ n → (wordsGo s w).length ≤ s.length + w.length := by
  induction n with
  | zero =>
    intro s w h
    obtain rfl : s = [] := List.length_eq_zero_iff.1 (by omega)
    simpa [wordsGo] using flush_len w
  | succ n ih =>
    intro s w h
    have hf := flush_len w
    match s, h with
    | [], _ => simpa [wordsGo] using hf
    | [c], _ => rw [wordsGo]; split
                · simp; omega
                · split
                  · simp; omega
                  · simp
    | c :: d :: r, h =>
      simp only [List.length_cons] at h
      have i1 := ih r (w ++ [36, d]) (by omega)
      have i2 := ih r [] (by omega)
      have i3 := ih (d :: r) [] (by simp; omega)
      have i4 := ih (d :: r) (w ++ [c]) (by simp; omega)
      simp at i1 i2 i3 i4
      rw [wordsGo]; split
      · simp; omega
      · split
        · split <;> simp <;> omega
        · split
          · simp; omega
          · split
            · simp; omega
            · simp; omega
theorem words_len (s : List UInt8) : (words s).length ≤ s.length := by simpa [words] using go_len _ s [] (Nat.le_refl _)
def total (l : List (List UInt8)) : Nat := (l.map List.length).sum
theorem total_append (a b : List (List UInt8)) : total (a ++ b) = total a + total b := by simp [total]
theorem total_cons (a : List UInt8) (b : List (List UInt8)) : total (a :: b) = a.length + total b := by simp [total]
theorem total_flush (w : List UInt8) : total (flushL w) ≤ w.length := by unfold flushL; split <;> simp [total]
theorem go_total (n : Nat) : ∀ (s w : List UInt8), s.length ≤ n → total (wordsGo s w) ≤ s.length + w.length := by
  induction n with
  | zero =>
    intro s w h
    obtain rfl : s = [] := List.length_eq_zero_iff.1 (by omega)
    simpa [wordsGo] using total_flush w
  | succ n ih =>
    intro s w h
    have hf := total_flush w
    match s, h with
    | [], _ => simpa [wordsGo] using hf
    | [c], _ => rw [wordsGo]; split
                · simp [total_append, total_cons, total] at hf ⊢; omega
                · split
                  · simp; omega
                  · simp [total]; omega
    | c :: d :: r, h =>
      simp only [List.length_cons] at h
      have i1 := ih r (w ++ [36, d]) (by omega)
      have i2 := ih r [] (by omega)
      have i3 := ih (d :: r) [] (by simp; omega)
      have i4 := ih (d :: r) (w ++ [c]) (by simp; omega)
      simp at i1 i2 i3 i4
      rw [wordsGo]; split
      · simp; omega
      · split
        · split <;> simp [total_append, total_cons] <;> omega
        · split
          · simp [total_append, total_cons]; omega
          · split
            · simp [total_append]; omega
            · simp; omega
theorem words_total (s : List UInt8) : total (words s) ≤ s.length := by simpa [words] using go_total _ s [] (Nat.le_refl _)
inductive Chunks : List UInt8 → Prop
  | nil : Chunks []
  | pair (d : UInt8) {w : List UInt8} : Chunks w → Chunks (36 :: d :: w)
  | one (c : UInt8) {w : List UInt8} : c ≠ 36 → c ≠ 124 → c ≠ 58 → c ≠ 32 → Chunks w → Chunks (c :: w)
theorem Chunks.append {a b : List UInt8} (h : Chunks a) (k : Chunks b) : Chunks (a ++ b) := by
  induction h with
  | nil => exact k
  | pair d _ ih => exact .pair d ih
  | one c h1 h2 h3 h4 _ ih => exact .one c h1 h2 h3 h4 ih
theorem Chunks.go {w : List UInt8} (h : Chunks w) : ∀ (r v : List UInt8), wordsGo (w ++ r) v = wordsGo r (v ++ w) := by
  induction h with
  | nil => intro r v; simp
  | pair d _ ih => intro r v; rw [List.cons_append, List.cons_append, go_pair, ih]; simp
  | one c h1 h2 h3 h4 _ ih => intro r v; rw [List.cons_append, go_plain c _ _ (.inl h1) h2 h3 h4, ih]; simp
def joined (l : List (List UInt8)) : List UInt8 := (l.map fun w => 32 :: w).flatten
end Go.Proofs.YtbjekebkgidhaaaGreatDoor.Lex
end
section
set_option linter.unusedSimpArgs false
set_option linter.unusedVariables false
namespace Go.Proofs.YtbjekebkgidhaaaGreatDoor.Rng
open Go.RowKit Go.Shelf
variable {P : Program}
def Kept3 (b : Nat) (W W' : World) : Prop := W'.heap[b]? = W.heap[b]? ∧ W'.heap[b + 1]? = W.heap[b + 1]? ∧ W'.heap[b + 2]? = W.heap[b + 2]?
theorem Kept3.refl (b : Nat) (W : World) : Kept3 b W W := ⟨rfl, rfl, rfl⟩
theorem Kept3.trans {b : Nat} {A B C : World} (h : Kept3 b A B) (k : Kept3 b B C) : Kept3 b A C := ⟨k.1.trans h.1, k.2.1.trans h.2.1, k.2.2.trans h.2.2⟩
theorem Kept3.putObj {b l : Nat} (W : World) (o : Obj) (h : b + 2 < l) : Kept3 b W (W.putObj l o) :=
  ⟨World.putObj_heap_other (by omega), World.putObj_heap_other (by omega), World.putObj_heap_other (by omega)⟩
def SeqOf (P : Program) (gf : Nat) (lb : Array Value) (b : Nat) (xs : List ByteArray) (w : World) : Prop :=
  ∀ (l : Nat) (J Jx : List ByteArray → World → Prop) (W : World), Below w.heap.size w W →
    (∀ pre W1 u, J pre W1 → J pre (W1.setCell ⟨b, 0, none⟩ u)) →
    (∀ pre x W1, J pre W1 → (pre ++ [x]) <+: xs → YieldAt Fence.wide 1 P l #[.string x] W1 fun e W' =>
      (e = .returned (.bool true) ∧ J (pre ++ [x]) W' ∧ Kept3 b W1 W') ∨ (e = .returned (.bool false) ∧ Jx (pre ++ [x]) W')) →
    J [] W →
    CallsIn Fence.wide 2 P gf (#[.func (.yield l) #[] #[]] ++ lb) W fun e W' => (∃ v, e = .returned v) ∧ (J xs W' ∨ ∃ pre, pre <+: xs ∧ Jx pre W')
theorem wp_range_str {g : Operand} {p : Tmp} {assign body : Code} {Q : Exit → Act → World → Prop} {a : Act} {w : World} {gf : Nat} {lb : Array Value} {b : Nat} {xs : List ByteArray} {w0 : World}
    (hg : a.eval g = .func (.func gf) #[] lb) (eg : ∀ args w, (callFunc gf args).run P w = .ok (.enter gf args) w)
    (hseq : SeqOf P gf lb b xs w0) (hb0 : Below w0.heap.size w0 w) (hbw : b + 2 < w.heap.size)
    (I : List ByteArray → World → Prop) (Ix : Code → List ByteArray → World → Prop) (hI : OwnFrom w.heap.size I) (hIx : ∀ c, OwnFrom w.heap.size (Ix c))
    (hIs : ∀ pre W u, I pre W → I pre (W.setCell ⟨b, 0, none⟩ u)) (h0 : I [] w) (a₁ : ByteArray → Act)
    (hassign : ∀ (l : Nat) (x : ByteArray) (W : World) (K : Act → World → Prop), K (a₁ x) W →
      assign.wpIn (Fence.wide.inRound l) 1 P (Exit.then K (fun _ _ _ => False)) { tmps := (#[p].zip #[Value.string x]).foldl (fun t (p, v) => t.setIfInBounds p v) a.tmps, defers := [] } W)
    (hbody : ∀ (l : Nat) (pre : List ByteArray) (x : ByteArray) (W : World), I pre W → (pre ++ [x]) <+: xs → body.wpIn (Fence.wide.inRound l) 1 P (ownPostG w.heap.size (Kept3 b) I Ix (pre ++ [x]) W) (a₁ x) W)
    (hdone : ∀ (D : Nat) (W : World), w.heap.size ≤ D → I xs W → W.heap[D]? = some (.deferred (some [])) → Q .normal { a with defers := { target := .collected D, args := #[] } :: a.defers } W)
    (hstop : ∀ (D : Nat) (c : Code) (pre : List ByteArray) (W : World), w.heap.size ≤ D → pre <+: xs → Ix c pre W → W.heap[D]? = some (.deferred (some [])) → c.wpIn Fence.wide 3 P Q { a with defers := { target := .collected D, args := #[] } :: a.defers } W) :
    (Code.rangeFunc g #[p] assign body).wpIn Fence.wide 3 P Q a w := by
  refine wpIn_rangeFunc ?_
  intro fn hfn
  obtain ⟨rec, hrec⟩ : ∃ rec : LoopState → Option Code → Loop, rec = fun st pe => { state := st, pending := pe, fn, tmps := a.tmps, params := #[p], assign, body, defers := w.heap.size } := ⟨_, rfl⟩
  obtain ⟨W1, hW1⟩ : ∃ W1, (w.alloc (.deferred (some []))).alloc (.loop (rec .ready none)) = W1 := ⟨_, rfl⟩
  have hL1 : W1.heap[w.heap.size + 1]? = some (.loop (rec .ready none)) := by
    rw [← hW1]; have := World.alloc_heap_new (w.alloc (.deferred (some []))) (.loop (rec .ready none)); rwa [World.size_alloc] at this
  have hD1 : W1.heap[w.heap.size]? = some (.deferred (some [])) := by
    rw [← hW1]; exact (Below.heap_alloc _ _ _ (by simp)).trans (World.alloc_heap_new w _)
  have hI1 : I [] W1 := by rw [← hW1]; exact hI.alloc _ (hI.alloc _ h0)
  have hb1 : Below w0.heap.size w0 W1 := by
    rw [← hW1]; exact hb0.trans ((((Below.refl _ w).alloc (Nat.le_refl _) _).alloc (by simp) _).mono hb0.size)
  refine ⟨w.heap.size + 1, [{ target := .collected w.heap.size, args := #[] }], W1, { target := .fn (.func gf) lb, args := #[.func (.yield (w.heap.size + 1)) #[] #[]] }, W1, gf,
    #[.func (.yield (w.heap.size + 1)) #[] #[]] ++ lb, W1, ?_, ?_, ?_, ?_, fun _ => by omega, ?_⟩
  · rw [← hW1, hrec]; exact run_enterLoop_outer _ _ _ _ _
  · simp only [resolve, hg]
    simp [go_sem]
  · intro f' hf'; trivial
  · simp [invoke, go_sem, eg]
  · refine (hseq (w.heap.size + 1)
      (fun pre W => I pre W ∧ W.heap[w.heap.size + 1]? = some (.loop (rec .ready none)) ∧ W.heap[w.heap.size]? = some (.deferred (some [])))
      (fun pre W => ∃ c, Ix c pre W ∧ W.heap[w.heap.size + 1]? = some (.loop (rec .done (some c))) ∧ W.heap[w.heap.size]? = some (.deferred (some [])))
      W1 hb1
      (fun pre W u hs => ⟨hIs pre W u hs.1, (KeepsOthers.setCell W _ u).same _ _ hs.2.1 rfl, (KeepsOthers.setCell W _ u).same _ _ hs.2.2 rfl⟩)
      ?_ ⟨hI1, hL1, hD1⟩).mono ?_
    · rintro pre x W ⟨hi, hl, hk⟩ hpx
      have hlt : w.heap.size + 1 < W.heap.size := (Array.getElem?_eq_some_iff.1 hl).1
      have hy := run_yield (P := P) (args := #[.string x]) hl (by rw [hrec]; rfl)
      rw [hrec] at hy
      refine ⟨fn, _, assign, body, hy, roundIn_of_wpIn hfn (hassign _ x W _ ⟨_, run_beginRound hl (by rw [hrec]), ?_⟩)⟩
      obtain ⟨W2, hW2⟩ : ∃ W2, W.putObj (w.heap.size + 1) (.loop { rec .ready none with state := .busy }) = W2 := ⟨_, rfl⟩
      have hl2 : W2.heap[w.heap.size + 1]? = some (.loop { rec .ready none with state := .busy }) := by rw [← hW2]; exact World.putObj_heap_same hlt
      have hk2 : W2.heap[w.heap.size]? = some (.deferred (some [])) := by rw [← hW2]; exact (World.putObj_heap_other (by omega)).trans hk
      have hs2 : Kept3 b W W2 := by rw [← hW2]; exact Kept3.putObj _ _ (by omega)
      have hi2 : I pre W2 := by rw [← hW2]; exact hI.putObj _ hi (by omega) hl rfl
      rw [hW2]
      refine wpIn_mono (hbody _ pre x _ hi2 hpx) ?_
      have fin : ∀ (jump : Option Code) (W3 : World), KeepsFrom w.heap.size W2 W3 →
          (Instr.endRound (w.heap.size + 1) jump).run P W3 = .ok (.bool jump.isNone) (W3.putObj (w.heap.size + 1) (.loop (rec (if jump.isNone then .ready else .done) jump))) ∧
          W3.heap[w.heap.size + 1]? = some (.loop { rec .ready none with state := .busy }) ∧
          (W3.putObj (w.heap.size + 1) (.loop (rec (if jump.isNone then .ready else .done) jump))).heap[w.heap.size + 1]? = some (.loop (rec (if jump.isNone then .ready else .done) jump)) ∧
          (W3.putObj (w.heap.size + 1) (.loop (rec (if jump.isNone then .ready else .done) jump))).heap[w.heap.size]? = some (.deferred (some [])) := fun jump W3 hk3 => by
        have hl3 := hk3.same _ _ (by omega) hl2 rfl
        have h := run_endRound (P := P) jump hl3
        rw [hrec] at h ⊢
        exact ⟨h, by rw [hrec] at hl3; exact hl3, World.putObj_heap_same (Array.getElem?_eq_some_iff.1 hl3).1, (World.putObj_heap_other (by omega)).trans (hk3.same _ _ (Nat.le_refl _) hk2 rfl)⟩
      have out : ∀ (c : Code) (W3 : World), KeepsFrom w.heap.size W2 W3 → Ix c (pre ++ [x]) W3 → ∃ c', Ix c' (pre ++ [x]) (W3.putObj (w.heap.size + 1) (.loop (rec .done (some c)))) ∧
          (W3.putObj (w.heap.size + 1) (.loop (rec .done (some c)))).heap[w.heap.size + 1]? = some (.loop (rec .done (some c'))) ∧ (W3.putObj (w.heap.size + 1) (.loop (rec .done (some c)))).heap[w.heap.size]? = some (.deferred (some [])) := fun c W3 hk3 hx3 => by
        obtain ⟨_, hl3, hl4, hk4⟩ := fin (some c) W3 hk3
        exact ⟨c, (hIx c).putObj _ hx3 (by omega) hl3 rfl, hl4, hk4⟩
      rintro e a3 W3 hp
      cases e with
      | normal =>
        obtain ⟨hk3, hkp3, hi3⟩ := hp
        obtain ⟨hr, hl3, hl4, hk4⟩ := fin none W3 hk3
        exact ⟨_, _, hr, .inl ⟨rfl, ⟨hI.putObj _ hi3 (by omega) hl3 rfl, hl4, hk4⟩, (hs2.trans hkp3).trans (Kept3.putObj _ _ (by omega))⟩⟩
      | ret => exact ⟨_, _, (fin (some .ret) W3 hp.1).1, .inr ⟨rfl, out .ret W3 hp.1 hp.2⟩⟩
      | exit id => exact ⟨_, _, (fin (some (.exit id)) W3 hp.1).1, .inr ⟨rfl, out (.exit id) W3 hp.1 hp.2⟩⟩
      | goto t => exact ⟨_, _, (fin (some (.goto t)) W3 hp.1).1, .inr ⟨rfl, out (.goto t) W3 hp.1 hp.2⟩⟩
      | panic ch => exact hp.elim
      | outgrown => exact hp.elim
    · rintro e W2 ⟨⟨v, rfl⟩, (⟨hi, hl, hk⟩ | ⟨pre, hSp, c, hi, hl, hk⟩)⟩
      · exact ⟨none, _, by have h := run_endLoop (P := P) hl (by rw [hrec]; simp); rw [hrec] at h; exact h, hdone _ _ (Nat.le_refl _) (hI.putObj _ hi (by omega) hl rfl) ((World.putObj_heap_other (by omega)).trans hk)⟩
      · exact ⟨some c, _, by have h := run_endLoop (P := P) hl (by rw [hrec]; simp); rw [hrec] at h; exact h, hstop _ c pre _ (Nat.le_refl _) hSp ((hIx c).putObj _ hi (by omega) hl rfl) ((World.putObj_heap_other (by omega)).trans hk)⟩
end Go.Proofs.YtbjekebkgidhaaaGreatDoor.Rng
end
section
set_option linter.unusedSimpArgs false
set_option linter.unusedVariables false
namespace Go.Proofs.YtbjekebkgidhaaaGreatDoor.P
open Go.RowKit Go.Shelf Go.Proofs.YtbjekebkgidhaaaGreatDoor.U Go.Proofs.YtbjekebkgidhaaaGreatDoor.Rng
def splitK (c : UInt8) (k : Nat) : List UInt8 → List (List UInt8)
  | [] => [[]]
  | b :: l => if b = c then [c].take k :: splitK c k l else match splitK c k l with
    | [] => [[b]]
    | p :: ps => (b :: p) :: ps
theorem splitK_ne (c : UInt8) (k : Nat) (l : List UInt8) : splitK c k l ≠ [] := by
  cases l with
  | nil => simp [splitK]
  | cons b l => unfold splitK; split
                · simp
                · split <;> simp
theorem splitK_none (c : UInt8) (k : Nat) (l : List UInt8) (h : c ∉ l) : splitK c k l = [l] := by
  induction l with
  | nil => rfl
  | cons b l ih =>
    have h1 : b ≠ c := fun e => h (by simp [e])
    rw [splitK, if_neg h1, ih (fun e => h (by simp [e]))]
theorem splitK_at (c : UInt8) (k : Nat) (a l : List UInt8) (h : c ∉ a) : splitK c k (a ++ c :: l) = (a ++ [c].take k) :: splitK c k l := by
  induction a with
  | nil => simp [splitK]
  | cons b a ih =>
    have h1 : b ≠ c := fun e => h (by simp [e])
    rw [List.cons_append, splitK, if_neg h1, ih (fun e => h (by simp [e]))]
    simp
theorem index_cases (l : List UInt8) (c : UInt8) : (Lib.indexByte l c = -1 ∧ c ∉ l) ∨ ∃ a r, l = a ++ c :: r ∧ c ∉ a ∧ Lib.indexByte l c = (a.length : Int) := by
  induction l with
  | nil => exact .inl ⟨rfl, by simp⟩
  | cons b l ih =>
    by_cases hb : b = c
    · exact .inr ⟨[], l, by simp [hb], by simp, by simp [Lib.indexByte, hb]⟩
    · rcases ih with ⟨h1, h2⟩ | ⟨a, r, rfl, h2, h3⟩
      · exact .inl ⟨by simp [Lib.indexByte, hb, h1], by simp [h2, Ne.symm hb]⟩
      · refine .inr ⟨b :: a, r, rfl, by simp [h2, Ne.symm hb], ?_⟩
        unfold Lib.indexByte
        rw [h3]
        have : ¬ ((a.length : Int) == -1) = true := by simp
        simp [hb]
attribute [local go_sem] Oper.semAt_some
set_option maxRecDepth 100000 in
set_option maxHeartbeats 4000000 in
theorem split_seq (c : UInt8) (k : Nat) (hk : k ≤ 1) (b : Nat) (s : List UInt8) (hs : s.length ≤ 1000000) (w : World) (hlt : b + 2 < w.heap.size)
    (hb0 : w.heap[b]? = some (.cells #[.string (B s)] 9 (0, 0))) (hb1 : w.heap[b + 1]? = some (.cells #[.string (B [c])] 9 (0, 0))) (hb2 : w.heap[b + 2]? = some (.cells #[.int .i64 (k : Int)] 3 (0, 0))) :
    SeqOf Tryz.prog 142 #[.pointer (some ⟨b + 1, 0, none⟩), .pointer (some ⟨b, 0, none⟩), .pointer (some ⟨b + 2, 0, none⟩)] b ((splitK c k s).map B) w := by
  intro l J Jx W hW hJs hY hJ0
  have HB0 : W.heap[b]? = some (.cells #[.string (B s)] 9 (0, 0)) := (hW.block _ (by omega)).trans hb0
  have HB1 : W.heap[b + 1]? = some (.cells #[.string (B [c])] 9 (0, 0)) := (hW.block _ (by omega)).trans hb1
  have HB2 : W.heap[b + 2]? = some (.cells #[.int .i64 (k : Int)] 3 (0, 0)) := (hW.block _ (by omega)).trans hb2
  clear hb0 hb1 hb2
  have c1 := cell_of_one HB1
  refine callsIn_of_wp Tryz.func142 rfl trivial ?_ rfl
  simp only [Tryz.ntmps142, List.size_toArray, List.length_cons, List.length_nil, Nat.reduceAdd, Nat.reduceSub, Array.replicate_succ, Array.replicate_zero, List.push_toArray, List.append_toArray, List.nil_append, List.cons_append]
  gi_wp2_with fail
  gi_loopg [] (s.length + 1) (fun gk wr => ∃ (pre : List ByteArray) (r : List UInt8), (splitK c k s).map B = pre ++ (splitK c k r).map B ∧ r.length < gk ∧ r.length ≤ 1000000 ∧
    Hid (wr.heap[b]? = some (.cells #[.string (B r)] 9 (0, 0))) ∧ Hid (wr.heap[b + 1]? = some (.cells #[.string (B [c])] 9 (0, 0))) ∧ Hid (wr.heap[b + 2]? = some (.cells #[.int .i64 (k : Int)] 3 (0, 0))) ∧ Hid (J pre wr))
  case atStart => exact ⟨[], s, rfl, by omega, hs, HB0, HB1, HB2, hJ0⟩
  case round =>
    clear c1
    obtain ⟨pre, r, hx, hgk, hr, h0, h1, h2, hj⟩ := hrel
    have c0 := cell_of_one h0.out
    have c1 := cell_of_one h1.out
    have c2 := cell_of_one h2.out
    have f0 := free_of_one h0.out
    have HX := Lib.hid hx
    clear hx
    rcases index_cases r c with ⟨hi, hn⟩ | ⟨a, r', hr', hn, hi⟩
    · have HC : Hid (∀ W, CallsIn Fence.wide 1 Tryz.prog 88 #[.string (B r), .string (B [c])] W fun e w' => e = .returned (.int .i64 (-1)) ∧ W = w') := fun W => by
        have h := Tryz.strings_Index_one (B r) c W
        rw [data_B, hi] at h
        exact callsIn_wide.2 (h.mono fun e w' ⟨he, hw⟩ => ⟨he, hw.symm⟩)
      clear hi
      obtain ⟨fn, tmps, assign, body, hy, hR⟩ := hY pre (B r) wr hj.out (by rw [HX.out, splitK_none c k r hn]; simp)
      gi_wp2_with fail
      refine ⟨trivial, (HC.out _).mono ?_⟩
      rintro e w' ⟨rfl, rfl⟩
      gi_wp2_with fail
      refine hR.mono ?_
      rintro e W3 (⟨rfl, hJ3, hk3⟩ | ⟨rfl, hJx3⟩)
      · gi_wp2_with fail
        go_end0
        exact ⟨⟨_, rfl⟩, .inl (by rw [HX.out, splitK_none c k r hn]; exact hJ3)⟩
      · gi_wp2_with fail
        go_end0
        exact ⟨⟨_, rfl⟩, .inr ⟨_, by rw [HX.out, splitK_none c k r hn]; simp, hJx3⟩⟩
    · have HC : Hid (∀ W, CallsIn Fence.wide 1 Tryz.prog 88 #[.string (B r), .string (B [c])] W fun e w' => e = .returned (.int .i64 (a.length : Int)) ∧ W = w') := fun W => by
        have h := Tryz.strings_Index_one (B r) c W
        rw [data_B, hi] at h
        exact callsIn_wide.2 (h.mono fun e w' ⟨he, hw⟩ => ⟨he, hw.symm⟩)
      clear hi
      have hlen : r.length = a.length + 1 + r'.length := by rw [hr']; simp; omega
      have hsz : (B r).size = a.length + 1 + r'.length := by rw [size_B, hlen]
      have ha1 : (a.length : Int) + (k : Int) ≤ (a.length : Int) + 1 + (r'.length : Int) := by omega
      have E1 : Hid ((B r).extract 0 (a.length + k) = B (a ++ [c].take k)) := by
        show (B r).extract 0 (a.length + k) = B (a ++ [c].take k)
        rw [extract_B, hr', List.drop_zero, List.take_append, List.take_of_length_le (by omega)]
        have : (c :: r').take (a.length + k - a.length) = [c].take k := by
          rw [Nat.add_sub_cancel_left]
          match k, hk with
          | 0, _ => rfl
          | 1, _ => rfl
        rw [this]
      have E2 : Hid ((B r).extract (a.length + 1) (a.length + 1 + r'.length) = B r') := by
        show (B r).extract (a.length + 1) (a.length + 1 + r'.length) = B r'
        rw [extract_B, List.take_of_length_le (by omega), hr', List.drop_append]
        simp
      have HS : Hid (splitK c k r = (a ++ [c].take k) :: splitK c k r') := by
        show splitK c k r = _
        rw [hr', splitK_at c k a r' hn]
      obtain ⟨fn, tmps, assign, body, hy, hR⟩ := hY pre (B (a ++ [c].take k)) wr hj.out (by rw [HX.out, HS.out]; simp)
      have hr3 : r'.length ≤ 1000000 := by omega
      have hr4 : a.length ≤ 1000000 := by omega
      clear hr'
      gi_wp2_with fail
      refine ⟨trivial, (HC.out _).mono ?_⟩
      rintro e w' ⟨rfl, rfl⟩
      rw [← E1.out] at hy
      gi_wp2_with fail
      refine hR.mono ?_
      rintro e W3 (⟨rfl, hJ3, hk3⟩ | ⟨rfl, hJx3⟩)
      · have g0 := Lib.hid (hk3.1.trans h0.out)
        have g1 := Lib.hid (hk3.2.1.trans h1.out)
        have g2 := Lib.hid (hk3.2.2.trans h2.out)
        have d0 := cell_of_one g0.out
        have d1 := cell_of_one g1.out
        have e0 := free_of_one g0.out
        have J3 := Lib.hid hJ3
        obtain ⟨g', rfl⟩ : ∃ g', gk = g' + 1 := ⟨gk - 1, by omega⟩
        clear hk3 hJ3 c0 c1 c2 f0 hy hR
        gi_wp2_with fail
        gi_roundg g'
        case measure => omega
        case rel =>
          rw [E2.out]
          refine ⟨pre ++ [B (a ++ [c].take k)], r', ?_, by omega, hr3, one_setCell g0.out, ?_, ?_, hJs _ _ _ J3.out⟩
          · rw [HX.out, HS.out]; simp
          · exact (Below.heap_setCell _ _ _ _ (by show b + 1 ≠ b; omega)).trans g1.out
          · exact (Below.heap_setCell _ _ _ _ (by show b + 2 ≠ b; omega)).trans g2.out
      · gi_wp2_with fail
        refine bodyPost_ret (results_none rfl _ _ _) rfl ?_
        exact ⟨⟨_, rfl⟩, .inr ⟨_, by rw [HX.out, HS.out]; simp, hJx3⟩⟩
end Go.Proofs.YtbjekebkgidhaaaGreatDoor.P
end
section
set_option linter.unusedSimpArgs false
set_option linter.unusedVariables false
namespace Go.Proofs.YtbjekebkgidhaaaGreatDoor.P
open Go.RowKit Go.Lib Go.Proofs.YtbjekebkgidhaaaGreatDoorW.PrintWords Go.Proofs.YtbjekebkgidhaaaGreatDoor.U
abbrev signs : ByteArray := ⟨#[46, 95, 45, 43, 47]⟩
theorem indexByte_no (l : List UInt8) (c : UInt8) (h : c ∉ l) : Lib.indexByte l c = -1 := by
  induction l with
  | nil => rfl
  | cons b l ih =>
    have h1 : b ≠ c := fun e => h (by simp [e])
    have h2 := ih (fun e => h (by simp [e]))
    unfold Lib.indexByte
    simp [h1, h2]
theorem ib_none (s : ByteArray) (b : Nat) (hs : ∀ x ∈ s.data.toList, x.toNat < 128) (h1 : 128 ≤ b) (h2 : b < 256) (w : World) :
    Calls Tryz.prog 139 #[.string s, .int .u8 (b : Int)] w fun e w' => e = .returned (.int .i64 (-1)) ∧ w' = w := by
  have h := Tryz.strings_IndexByte s (b : Int) w
  rw [indexByte_no] at h
  · exact h
  · intro hm
    have := hs _ hm
    simp at this
    rw [Nat.mod_eq_of_lt h2] at this
    omega
theorem signs_tail (a b : Nat) : ∀ x ∈ (signs.extract a b).data.toList, x.toNat < 128 := by
  intro x hx
  have := mem_extract hx
  simp at this
  rcases this with rfl | rfl | rfl | rfl | rfl <;> decide
theorem last_byte_of (rs : ByteArray) (k : Nat) (hk : rs.size = k + 1) (q : ∀ h : rs.size - 1 < rs.size, 128 ≤ (rs[rs.size - 1]'h).toNat) :
    ∃ b : Nat, 128 ≤ b ∧ b < 256 ∧ ∀ h : k < rs.size, ((rs[k]'h).toNat : Int) = (b : Int) := by
  have q4 := q (by omega)
  simp only [hk, Nat.add_sub_cancel] at q4
  exact ⟨(rs[k]'(by omega)).toNat, q4, UInt8.toNat_lt _, fun _ => rfl⟩
set_option maxRecDepth 1000000 in
set_option maxHeartbeats 4000000 in
theorem indexRune_valid (r : Nat) (h0 : 128 ≤ r) (h1 : r ≤ 1114111) (hE : r ≠ 65533) (hv : Lib.validRune (r : Int) = true) (w : World) :
    Calls Tryz.prog 118 #[.string signs, .int .i32 (r : Int)] w fun e w' => e = .returned (.int .i64 (-1)) ∧ Below w.heap.size w w' := by
  have hE' : ((r : Int) == 65533) = false := by rw [beq_eq_false_iff_ne]; omega
  have hlt : decide ((r : Int) < 128) = false := by simp; omega
  obtain ⟨q1, q2, q3⟩ := encode_facts (r : Int) (by rw [validRune_eq]; exact hv) (by omega)
  generalize hrs : Utf8.encode (r : Int) = rs at q1 q2 q3
  have hz : rs.size = 2 ∨ rs.size = 3 ∨ rs.size = 4 := by omega
  clear q1 q2
  rcases hz with hz | hz | hz
  · obtain ⟨b, hb1, hb3, hb2⟩ := last_byte_of rs 1 hz q3
    have hne : ((95 : Int) != (b : Int)) = true := by rw [bne_iff_ne]; omega
    clear q3
    have s1 : IntKind.i64.wrap (1 + 1) = 2 := by rfl
    have hsg : ∀ h : 1 < signs.size, ((signs[1]'h).toNat : Int) = 95 := fun _ => rfl
    have HS := Lib.hid (signs_tail 2 5)
    go_enter Tryz.func118, Tryz.ntmps118
    go_wp2_with (first | (go_at_call 140; refine (Tryz.utf8_ValidRune _ _).mono ?_; rintro e w' ⟨rfl, rfl⟩))
    go_step3
    go_wp2_with fail
    refine wp_loop_rounds 1 ?_
    rw [rounds_succ]
    go_wp2_with fail
    go_step3
    go_wp2_with fail
    go_quiet (fail)
    clear hrs hv hE hE' hlt
    go_wp2_with fail
    go_region_with (go_at_call 139; refine (ib_none _ b HS.out hb1 hb3 _).mono ?_; rintro e w2 ⟨rfl, rfl⟩)
    all_goals go_wp2_with fail
    all_goals (rw [Exit.noGoto_ret]; go_simp; go_ret; exact ⟨rfl, below_drewNg _ _⟩)
  · obtain ⟨b, hb1, hb3, hb2⟩ := last_byte_of rs 2 hz q3
    have hne : ((45 : Int) != (b : Int)) = true := by rw [bne_iff_ne]; omega
    clear q3
    have s1 : IntKind.i64.wrap (2 + 1) = 3 := by rfl
    have hsg : ∀ h : 2 < signs.size, ((signs[2]'h).toNat : Int) = 45 := fun _ => rfl
    have HS := Lib.hid (signs_tail 3 5)
    go_enter Tryz.func118, Tryz.ntmps118
    go_wp2_with (first | (go_at_call 140; refine (Tryz.utf8_ValidRune _ _).mono ?_; rintro e w' ⟨rfl, rfl⟩))
    go_step3
    go_wp2_with fail
    refine wp_loop_rounds 1 ?_
    rw [rounds_succ]
    go_wp2_with fail
    go_step3
    go_wp2_with fail
    go_quiet (fail)
    clear hrs hv hE hE' hlt
    go_wp2_with fail
    go_region_with (go_at_call 139; refine (ib_none _ b HS.out hb1 hb3 _).mono ?_; rintro e w2 ⟨rfl, rfl⟩)
    all_goals go_wp2_with fail
    all_goals (rw [Exit.noGoto_ret]; go_simp; go_ret; exact ⟨rfl, below_drewNg _ _⟩)
  · obtain ⟨b, hb1, hb3, hb2⟩ := last_byte_of rs 3 hz q3
    have hne : ((43 : Int) != (b : Int)) = true := by rw [bne_iff_ne]; omega
    clear q3
    have s1 : IntKind.i64.wrap (3 + 1) = 4 := by rfl
    have hsg : ∀ h : 3 < signs.size, ((signs[3]'h).toNat : Int) = 43 := fun _ => rfl
    have HS := Lib.hid (signs_tail 4 5)
    go_enter Tryz.func118, Tryz.ntmps118
    go_wp2_with (first | (go_at_call 140; refine (Tryz.utf8_ValidRune _ _).mono ?_; rintro e w' ⟨rfl, rfl⟩))
    go_step3
    go_wp2_with fail
    refine wp_loop_rounds 1 ?_
    rw [rounds_succ]
    go_wp2_with fail
    go_step3
    go_wp2_with fail
    go_quiet (fail)
    clear hrs hv hE hE' hlt
    go_wp2_with fail
    go_region_with (go_at_call 139; refine (ib_none _ b HS.out hb1 hb3 _).mono ?_; rintro e w2 ⟨rfl, rfl⟩)
    all_goals go_wp2_with fail
    all_goals (rw [Exit.noGoto_ret]; go_simp; go_ret; exact ⟨rfl, below_drewNg _ _⟩)
set_option maxRecDepth 1000000 in
set_option maxHeartbeats 4000000 in
theorem indexRune_invalid (r : Nat) (h0 : 128 ≤ r) (h1 : r ≤ 1114111) (hE : r ≠ 65533) (hv : Lib.validRune (r : Int) = false) (w : World) :
    Calls Tryz.prog 118 #[.string signs, .int .i32 (r : Int)] w fun e w' => e = .returned (.int .i64 (-1)) ∧ Below w.heap.size w w' := by
  have hE' : ((r : Int) == 65533) = false := by rw [beq_eq_false_iff_ne]; omega
  have hlt : decide ((r : Int) < 128) = false := by simp; omega
  go_enter Tryz.func118, Tryz.ntmps118
  go_wp2_with (first | (go_at_call 140; refine (Tryz.utf8_ValidRune _ _).mono ?_; rintro e w' ⟨rfl, rfl⟩))
  go_ret
  exact ⟨rfl, Below.refl _ _⟩
theorem decode_signs (pos : Nat) (h : pos < 5) : (Utf8.decode signs pos).1 ≠ 65533 ∧ (Utf8.decode signs pos).2 = 1 := by
  have : pos = 0 ∨ pos = 1 ∨ pos = 2 ∨ pos = 3 ∨ pos = 4 := by omega
  rcases this with rfl | rfl | rfl | rfl | rfl <;> exact ⟨by decide +kernel, by decide +kernel⟩
set_option maxRecDepth 1000000 in
set_option maxHeartbeats 4000000 in
theorem indexRune_error (w : World) :
    Calls Tryz.prog 118 #[.string signs, .int .i32 65533] w fun e w' => e = .returned (.int .i64 (-1)) ∧ Below w.heap.size w w' := by
  go_enter Tryz.func118, Tryz.ntmps118
  go_wp2
  go_loopg [] 5 (fun gf wx => ∃ pos : Nat, wx.heap[w.heap.size]? = some (.stringIter signs pos) ∧ Below w.heap.size w wx ∧ 5 ≤ pos + gf)
  case atStart => exact ⟨0, World.iter_heap w signs 0, (Below.refl _ w).alloc (Nat.le_refl _) _, by omega⟩
  case round =>
    obtain ⟨pos, hit, hbw, hfu⟩ := hrel
    by_cases hps : pos < signs.size
    · have hp5 : pos < 5 := hps
      obtain ⟨g', rfl⟩ : ∃ g', gk = g' + 1 := ⟨gk - 1, by omega⟩
      have hnx : ∀ ty, (Instr.next (.pointer (some ⟨w.heap.size, 0, none⟩)) true ty).run Tryz.prog wr = _ := fun ty => Lib.run_next_any_at wr w.heap.size signs pos ty hit hps
      obtain ⟨hd1, hd2⟩ := decode_signs pos hp5
      obtain ⟨R, hR⟩ : ∃ R, (Utf8.decode signs pos).1 = R := ⟨_, rfl⟩
      rw [hR] at hd1 hnx
      rw [hd2] at hnx
      have hit2 := Lib.iterAt_heap wr w.heap.size signs pos (pos + 1) hit
      have hbw2 := Lib.below_iterAt hbw (k := w.heap.size) (Nat.le_refl _) signs (pos + 1)
      obtain ⟨W, hWd⟩ : ∃ W, wr.iterAt w.heap.size signs (pos + 1) = W := ⟨_, rfl⟩
      rw [hWd] at hnx hit2 hbw2
      have hR3 : ((R : Int) == 65533) = false := by rw [beq_eq_false_iff_ne]; omega
      clear hR hd2 hWd hit hd1
      go_wp2
      go_roundg g'
      case measure => omega
      case rel => exact ⟨pos + 1, hit2, hbw2, by omega⟩
    · have hnx : ∀ ty, (Instr.next (.pointer (some ⟨w.heap.size, 0, none⟩)) true ty).run Tryz.prog wr = _ := fun ty => Lib.run_next_end_at wr w.heap.size signs pos ty hit (by omega)
      go_wp2
      go_ret
      exact ⟨rfl, hbw⟩
end Go.Proofs.YtbjekebkgidhaaaGreatDoor.P
end
section
set_option linter.unusedSimpArgs false
set_option linter.unusedVariables false
namespace Go.Proofs.YtbjekebkgidhaaaGreatDoor.P
open Go.RowKit Go.Lib Go.Proofs.YtbjekebkgidhaaaGreatDoorW.PrintWords Go.Proofs.YtbjekebkgidhaaaGreatDoor.U
def isSignR (c : Nat) : Bool := c == 46 || c == 95 || c == 45 || c == 43 || c == 47
def plainR (c : Nat) : Bool := (decide (97 ≤ c) && decide (c ≤ 122)) || (decide (65 ≤ c) && decide (c ≤ 90)) || (decide (48 ≤ c) && decide (c ≤ 57)) || isSignR c
theorem sign_ascii : ∀ c : Fin 128, decide (0 ≤ Lib.indexByte signs.data.toList ((c.val : Int).toNat.toUInt8)) = isSignR c.val := by decide +kernel
theorem sign_beyond (c : Nat) (h : 128 ≤ c) : isSignR c = false := by
  have h1 : ¬ c = 46 := by omega
  have h2 : ¬ c = 95 := by omega
  have h3 : ¬ c = 45 := by omega
  have h4 : ¬ c = 43 := by omega
  have h5 : ¬ c = 47 := by omega
  simp [isSignR, h1, h2, h3, h4, h5]
set_option maxRecDepth 100000 in
set_option maxHeartbeats 2000000 in
theorem containsRune_any (c : Nat) (h1 : c ≤ 1114111) (w : World) :
    Calls Tryz.prog 92 #[.string signs, .int .i32 (c : Int)] w fun e w' => e = .returned (.bool (isSignR c)) ∧ Below w.heap.size w w' := by
  by_cases hc : c < 128
  · have h := Tryz.strings_ContainsRune_ascii signs (c : Int) w (by omega) (by omega)
    have e := sign_ascii ⟨c, hc⟩
    simp only at e
    rw [e] at h
    exact h.mono fun e w' ⟨he, hw⟩ => ⟨he, hw ▸ Below.refl _ _⟩
  · have hI : Calls Tryz.prog 118 #[.string signs, .int .i32 (c : Int)] w fun e w' => e = .returned (.int .i64 (-1)) ∧ Below w.heap.size w w' := by
      by_cases hE : c = 65533
      · subst hE; exact indexRune_error w
      · by_cases hv : Lib.validRune (c : Int) = true
        · exact indexRune_valid c (by omega) h1 hE hv w
        · exact indexRune_invalid c (by omega) h1 hE (by simpa using hv) w
    have HI := Lib.hid hI
    clear hI
    rw [sign_beyond c (by omega)]
    go_enter Tryz.func92, Tryz.ntmps92
    go_wp2_with fail
    refine HI.out.mono ?_
    rintro e w' ⟨rfl, hb⟩
    go_wp2_with fail
    go_ret
    exact ⟨rfl, hb⟩
theorem not_sign_letter (c : Nat) (h : (97 ≤ c ∧ c ≤ 122) ∨ (65 ≤ c ∧ c ≤ 90) ∨ (48 ≤ c ∧ c ≤ 57)) : plainR c = true := by
  unfold plainR
  rcases h with ⟨a, b⟩ | ⟨a, b⟩ | ⟨a, b⟩ <;> simp [a, b]
theorem plain_other (c : Nat) (h : c < 48 ∨ (57 < c ∧ c < 65) ∨ (90 < c ∧ c < 97) ∨ 122 < c) : plainR c = isSignR c := by
  unfold plainR
  have h1 : ¬ (97 ≤ c ∧ c ≤ 122) := by omega
  have h2 : ¬ (65 ≤ c ∧ c ≤ 90) := by omega
  have h3 : ¬ (48 ≤ c ∧ c ≤ 57) := by omega
  have e1 : (decide (97 ≤ c) && decide (c ≤ 122)) = false := by rw [← Bool.decide_and]; simp only [decide_eq_false_iff_not]; exact h1
  have e2 : (decide (65 ≤ c) && decide (c ≤ 90)) = false := by rw [← Bool.decide_and]; simp only [decide_eq_false_iff_not]; exact h2
  have e3 : (decide (48 ≤ c) && decide (c ≤ 57)) = false := by rw [← Bool.decide_and]; simp only [decide_eq_false_iff_not]; exact h3
  simp [e1, e2, e3]
set_option maxRecDepth 100000 in
set_option maxHeartbeats 4000000 in
theorem plain_any (c : Nat) (h1 : c ≤ 1114111) (w : World) :
    Calls Tryz.prog 104 #[.int .i32 (c : Int)] w fun e w' => e = .returned (.bool (plainR c)) ∧ Below w.heap.size w w' := by
  rcases (show ((97 ≤ c ∧ c ≤ 122) ∨ (65 ≤ c ∧ c ≤ 90) ∨ (48 ≤ c ∧ c ≤ 57)) ∨ (c < 48 ∨ (57 < c ∧ c < 65) ∨ (90 < c ∧ c < 97) ∨ 122 < c) from by omega) with h | h
  · rw [not_sign_letter c h]
    rcases h with ⟨a, b⟩ | ⟨a, b⟩ | ⟨a, b⟩
    all_goals
      go_enter Tryz.func104, Tryz.ntmps104
      go_wp2_with fail
      go_ret
      exact ⟨rfl, Below.refl _ _⟩
  · have H := Lib.hid (plain_other c h)
    rcases h with a | ⟨a, b⟩ | ⟨a, b⟩ | a
    · go_enter Tryz.func104, Tryz.ntmps104
      go_wp2_with fail
      refine (containsRune_any c h1 _).mono ?_
      rintro e w' ⟨rfl, hb⟩
      go_wp2_with fail
      go_ret
      exact ⟨by rw [H.out]; rfl, hb⟩
    · have d57 : decide ((c : Int) ≤ 57) = false := by simp; omega
      go_enter Tryz.func104, Tryz.ntmps104
      go_wp2_with fail
      refine (containsRune_any c h1 _).mono ?_
      rintro e w' ⟨rfl, hb⟩
      go_wp2_with fail
      go_ret
      exact ⟨by rw [H.out]; rfl, hb⟩
    · have d57 : decide ((c : Int) ≤ 57) = false := by simp; omega
      have d90 : decide ((c : Int) ≤ 90) = false := by simp; omega
      go_enter Tryz.func104, Tryz.ntmps104
      go_wp2_with fail
      refine (containsRune_any c h1 _).mono ?_
      rintro e w' ⟨rfl, hb⟩
      go_wp2_with fail
      go_ret
      exact ⟨by rw [H.out]; rfl, hb⟩
    · have d57 : decide ((c : Int) ≤ 57) = false := by simp; omega
      have d90 : decide ((c : Int) ≤ 90) = false := by simp; omega
      have d122 : decide ((c : Int) ≤ 122) = false := by simp; omega
      go_enter Tryz.func104, Tryz.ntmps104
      go_wp2_with fail
      refine (containsRune_any c h1 _).mono ?_
      rintro e w' ⟨rfl, hb⟩
      go_wp2_with fail
      go_ret
      exact ⟨by rw [H.out]; rfl, hb⟩
theorem notplain_grows (w : World) : PredGrows Tryz.prog 103 #[] (fun c => !plainR c) w := by
  intro W x hx hb
  go_enter Tryz.func103, Tryz.ntmps103
  go_wp2_with fail
  refine (plain_any x hx _).mono ?_
  rintro e w' ⟨rfl, hb2⟩
  go_wp2_with fail
  go_ret
  exact ⟨rfl, hb2⟩
def plainB (b : UInt8) : Bool := plainR b.toNat
theorem plainR_beyond (c : Nat) (h : 128 ≤ c) : plainR c = false := by rw [plain_other c (by omega)]; exact sign_beyond c h
theorem decode_at (s : ByteArray) (pos : Nat) (h : pos < s.size) : ((s[pos]'h).toNat < 128 → Utf8.decode s pos = ((s[pos]'h).toNat, 1)) ∧ (128 ≤ (s[pos]'h).toNat → 128 ≤ (Utf8.decode s pos).1) := by
  have hg : (s.get! pos).toNat = (s[pos]'h).toNat := by
    have : s.get! pos = s[pos]'h := by
      show s.data[pos]! = s.data[pos]'h
      rw [getElem!_pos s.data pos h]
    rw [this]
  have hlt := (s[pos]'h).toNat_lt
  constructor
  · intro h1
    unfold Utf8.decode
    simp only [Nat.add_zero, hg]
    rw [if_pos h1]
  · intro h1
    unfold Utf8.decode
    simp only [Nat.add_zero, hg]
    rw [if_neg (by omega)]
    split
    · split
      · assumption
      · show 128 ≤ Utf8.runeError; decide
    · split
      · split
        · rename_i h2; simp only [Bool.and_eq_true, decide_eq_true_eq] at h2; omega
        · show 128 ≤ Utf8.runeError; decide
      · split
        · split
          · rename_i h2; simp only [Bool.and_eq_true, decide_eq_true_eq] at h2; omega
          · show 128 ≤ Utf8.runeError; decide
        · show 128 ≤ Utf8.runeError; decide
theorem plainB_ascii (b : UInt8) (h : plainB b = true) : b.toNat < 128 := by
  refine Nat.lt_of_not_le fun h2 => ?_
  rw [plainB, plainR_beyond _ h2] at h
  cases h
theorem idx_all (s : ByteArray) (f : Nat) : ∀ pos, (∀ j (h : j < s.size), pos ≤ j → plainB (s[j]'h) = true) → Lib.idxFuncFrom (fun c => !plainR c) true s f pos = -1 := by
  induction f with
  | zero => intro pos _; rfl
  | succ f ih =>
    intro pos h
    unfold Lib.idxFuncFrom
    by_cases hp : pos < s.size
    · have hb := h pos hp (Nat.le_refl _)
      have hd := (decode_at s pos hp).1 (plainB_ascii _ hb)
      rw [if_pos hp, hd, if_neg (by simp; exact hb)]
      exact ih (pos + 1) fun j hj hle => h j hj (by omega)
    · rw [if_neg hp]
theorem idx_some (s : ByteArray) (f : Nat) : ∀ pos, s.size ≤ pos + f → (∃ j, ∃ h : j < s.size, pos ≤ j ∧ plainB (s[j]'h) = false) → 0 ≤ Lib.idxFuncFrom (fun c => !plainR c) true s f pos := by
  induction f with
  | zero =>
    intro pos hf ⟨j, hj, h1, _⟩
    omega
  | succ f ih =>
    intro pos hf ⟨j, hj, h1, h2⟩
    have hp : pos < s.size := by omega
    unfold Lib.idxFuncFrom
    rw [if_pos hp]
    by_cases hr : plainR (Utf8.decode s pos).1 = true
    · have hlt : (s[pos]'hp).toNat < 128 := by
        refine Nat.lt_of_not_le fun h3 => ?_
        rw [plainR_beyond _ ((decode_at s pos hp).2 h3)] at hr
        cases hr
      have hd := (decode_at s pos hp).1 hlt
      rw [hd] at hr ⊢
      rw [if_neg (by simp; exact hr)]
      refine ih (pos + 1) (by omega) ⟨j, hj, ?_, h2⟩
      refine Nat.lt_of_le_of_ne h1 fun e => ?_
      subst e
      rw [plainB] at h2
      simp only at hr
      rw [hr] at h2
      cases h2
    · rw [if_pos (by simpa using hr)]
      omega
theorem idx_plain (l : List UInt8) : (l.all plainB = true → Lib.idxFunc (fun c => !plainR c) true (B l) = -1) ∧ (l.all plainB = false → 0 ≤ Lib.idxFunc (fun c => !plainR c) true (B l)) := by
  unfold Lib.idxFunc
  constructor
  · intro h
    refine idx_all (B l) _ 0 fun j hj _ => ?_
    have : (B l)[j]'hj ∈ l := by
      show l.toArray[j]'hj ∈ l
      simp
    exact List.all_eq_true.1 h _ this
  · intro h
    refine idx_some (B l) _ 0 (by omega) ?_
    obtain ⟨x, hx, hx2⟩ := List.all_eq_false.1 h
    obtain ⟨j, hj, rfl⟩ := List.getElem_of_mem hx
    exact ⟨j, by rw [size_B]; exact hj, Nat.zero_le _, (show plainB l[j] = false by simpa using hx2)⟩
end Go.Proofs.YtbjekebkgidhaaaGreatDoor.P
end
section
set_option linter.unusedSimpArgs false
set_option linter.unusedVariables false
namespace Go.Proofs.YtbjekebkgidhaaaGreatDoor.P
open Go.RowKit Go.Shelf Go.Proofs.YtbjekebkgidhaaaGreatDoorW.PrintWords Go.Proofs.YtbjekebkgidhaaaGreatDoor.U Go.Proofs.YtbjekebkgidhaaaGreatDoor.Rng
def foldP : List (List UInt8) → List (List UInt8) → Option (List (List UInt8))
  | [], ps => some ps
  | p :: r, ps => if p = [] ∨ p = [46] then foldP r ps else if p = [46, 46] then (if ps = [] then none else foldP r ps.dropLast) else foldP r (ps ++ [p])
def joinP (ps : List (List UInt8)) : List UInt8 := [47].intercalate ps
def cleanL (l : List UInt8) : List UInt8 × Int :=
  if 1000 < l.length then ([], 3) else if l.head? = some 47 ∨ l.all plainB = false then ([], 5) else
  match foldP (splitK 47 0 l) [] with
  | none => ([], 5)
  | some ps => if joinP ps = [] then ([], 5) else if 100 < (joinP ps).length then ([], 3) else (joinP ps, 0)
set_option maxRecDepth 100000 in
set_option maxHeartbeats 1000000 in
theorem SplitSeq_any (s sep : ByteArray) (w : World) :
    Calls Tryz.prog 105 #[.string s, .string sep] w fun e w' => e = .returned (.func (.func 142) #[] #[.pointer (some ⟨w.heap.size + 1, 0, none⟩), .pointer (some ⟨w.heap.size, 0, none⟩), .pointer (some ⟨w.heap.size + 2, 0, none⟩)]) ∧
      ((w.alloc (.cells #[.string s] 9)).alloc (.cells #[.string sep] 9)).alloc (.cells #[.int .i64 0] 3) = w' := by
  go_enter Tryz.func105, Tryz.ntmps105
  go_wp2
  go_ret
  exact ⟨rfl, rfl⟩
theorem hasPrefix_slash (l : List UInt8) : Lib.hasPrefix l [47] = decide (l.head? = some 47) := by
  cases l with
  | nil => rfl
  | cons b l =>
    rw [Bool.eq_iff_iff]
    simp [Lib.hasPrefix, List.isPrefixOf]
    exact eq_comm
set_option maxRecDepth 100000 in
set_option maxHeartbeats 2000000 in
theorem clean_long (l : List UInt8) (h : 1000 < l.length) (w : World) :
    Calls Tryz.prog 78 #[.string (B l)] w fun e w' => e = .returned (.tuple #[.string (B []), .int .i64 3]) ∧ Below w.heap.size w w' := by
  have hs : (B l).size = l.length := size_B l
  have h' : (1000 : Int) < (l.length : Int) := by omega
  go_enter Tryz.func78, Tryz.ntmps78
  go_wp2
  go_step3
  go_wp2
  rw [Exit.noGoto_ret]
  refine bodyPost_ret (v := .tuple #[.string (B []), .int .i64 3]) (by simp [results, Tryz.results78, go_sem]) rfl ⟨rfl, ?_⟩
  exact (((((Below.refl _ w).alloc (Nat.le_refl _) _).alloc (by simp) _)))
set_option maxRecDepth 100000 in
set_option maxHeartbeats 2000000 in
theorem clean_slash (l : List UInt8) (h : l.length ≤ 1000) (hb : l.head? = some 47) (w : World) :
    Calls Tryz.prog 78 #[.string (B l)] w fun e w' => e = .returned (.tuple #[.string (B []), .int .i64 5]) ∧ Below w.heap.size w w' := by
  have hs : (B l).size = l.length := size_B l
  have h' : (l.length : Int) ≤ 1000 := by omega
  have HP : Hid (∀ W, Calls Tryz.prog 99 #[.string (B l), .string ⟨#[47]⟩] W fun e w' => e = .returned (.bool true) ∧ W = w') := fun W => by
    have := Tryz.strings_HasPrefix (B l) ⟨#[47]⟩ W
    rw [data_B, hasPrefix_slash, hb] at this
    exact this.mono fun e w' ⟨he, hw⟩ => ⟨he, hw.symm⟩
  clear hb
  go_enter Tryz.func78, Tryz.ntmps78
  go_wp2
  go_step3
  go_wp2_with fail
  refine (HP.out _).mono ?_
  rintro e w' ⟨rfl, rfl⟩
  go_wp2_with fail
  rw [Exit.noGoto_ret]
  refine bodyPost_ret (v := .tuple #[.string (B []), .int .i64 5]) (by simp [results, Tryz.results78, go_sem]) rfl ⟨rfl, ?_⟩
  exact ((Below.refl _ w).alloc (Nat.le_refl _) _).alloc (by simp) _
theorem idx_calls (l : List UInt8) (n : Int) (h : Lib.idxFunc (fun c => !plainR c) true (B l) = n) (W : World) :
    Calls Tryz.prog 61 #[.string (B l), .func (.func 103) #[] #[]] W fun e w' => e = .returned (.int .i64 n) ∧ Below W.heap.size W w' := by
  have := Tryz.strings_IndexFunc_grows 103 #[] (enters_of Tryz.func103 (by kernel_rfl) rfl) (fun c => !plainR c) (B l) W (notplain_grows W)
  rw [h] at this
  exact this
set_option maxRecDepth 100000 in
set_option maxHeartbeats 2000000 in
theorem clean_bad (l : List UInt8) (h : l.length ≤ 1000) (hb : ¬ l.head? = some 47) (hp : l.all plainB = false) (w : World) :
    Calls Tryz.prog 78 #[.string (B l)] w fun e w' => e = .returned (.tuple #[.string (B []), .int .i64 5]) ∧ Below w.heap.size w w' := by
  have hs : (B l).size = l.length := size_B l
  have h' : (l.length : Int) ≤ 1000 := by omega
  have HP : Hid (∀ W, Calls Tryz.prog 99 #[.string (B l), .string ⟨#[47]⟩] W fun e w' => e = .returned (.bool false) ∧ W = w') := fun W => by
    have := Tryz.strings_HasPrefix (B l) ⟨#[47]⟩ W
    rw [data_B, hasPrefix_slash, decide_eq_false hb] at this
    exact this.mono fun e w' ⟨he, hw⟩ => ⟨he, hw.symm⟩
  obtain ⟨i, hi⟩ : ∃ i, Lib.idxFunc (fun c => !plainR c) true (B l) = i := ⟨_, rfl⟩
  have hi0 : 0 ≤ i := by rw [← hi]; exact (idx_plain l).2 hp
  have HI := Lib.hid (idx_calls l i hi)
  clear hb hp hi
  go_enter Tryz.func78, Tryz.ntmps78
  go_wp2
  go_step3
  go_wp2_with fail
  refine (HP.out _).mono ?_
  rintro e w' ⟨rfl, rfl⟩
  go_wp2_with fail
  refine (HI.out _).mono ?_
  rintro e w' ⟨rfl, hb⟩
  have b1 : w'.heap[w.heap.size]? = some (.cells #[.string (B [])] 9 (0, 0)) := (hb.block _ (by simp; omega)).trans ((Below.heap_alloc _ _ _ (by simp)).trans (heap_alloc_new w _))
  have b2 : w'.heap[w.heap.size + 1]? = some (.cells #[.int .i64 0] 27 (0, 0)) := (hb.block _ (by simp)).trans (by simpa using heap_alloc_new (w.alloc _) _)
  have c1 := cell_of_one b1
  have c2 := cell_of_one b2
  have f1 := free_of_one b1
  have f2 := free_of_one b2
  go_wp2_with fail
  rw [Exit.noGoto_ret]
  have b1' := one_setCell (u := .string (B [])) b1
  have b2' : (w'.setCell ⟨w.heap.size, 0, none⟩ (.string (B []))).heap[w.heap.size + 1]? = _ := (Below.heap_setCell w' ⟨w.heap.size, 0, none⟩ _ (w.heap.size + 1) (by show w.heap.size + 1 ≠ w.heap.size; omega)).trans b2
  have b2'' := one_setCell (u := .int .i64 5) b2'
  have b1'' := (Below.heap_setCell (w'.setCell ⟨w.heap.size, 0, none⟩ (.string (B []))) ⟨w.heap.size + 1, 0, none⟩ (.int .i64 5) w.heap.size (by show w.heap.size ≠ w.heap.size + 1; omega)).trans b1'
  have k1 := cell_of_one b1''
  have k2 := cell_of_one b2''
  refine bodyPost_ret (v := .tuple #[.string (B []), .int .i64 5]) (by simp [results, Tryz.results78, go_sem, k1, k2]) rfl ⟨rfl, ?_⟩
  exact (((((Below.refl _ w).alloc (Nat.le_refl _) _).alloc (by simp) _).trans (hb.mono (by simp; omega))).setCell (Nat.le_refl _) _).setCell (Nat.le_succ _) _
theorem SplitSeq_calls (l : List UInt8) (W : World) :
    Calls Tryz.prog 105 #[.string (B l), .string ⟨#[47]⟩] W fun e w' => e = .returned (.func (.func 142) #[] #[.pointer (some ⟨W.heap.size + 1, 0, none⟩), .pointer (some ⟨W.heap.size, 0, none⟩), .pointer (some ⟨W.heap.size + 2, 0, none⟩)]) ∧
      Below W.heap.size W w' ∧ W.heap.size + 2 < w'.heap.size ∧ w'.heap[W.heap.size]? = some (.cells #[.string (B l)] 9 (0, 0)) ∧ w'.heap[W.heap.size + 1]? = some (.cells #[.string (B [47])] 9 (0, 0)) ∧ w'.heap[W.heap.size + 2]? = some (.cells #[.int .i64 0] 3 (0, 0)) :=
  (SplitSeq_any (B l) ⟨#[47]⟩ W).mono fun e w' ⟨he, hw⟩ => by
    subst hw
    refine ⟨he, (((Below.refl _ W).alloc (Nat.le_refl _) _).alloc (by simp) _).alloc (by simp; omega) _, by simp, ?_, ?_, ?_⟩
    · exact (Below.heap_alloc _ _ _ (by simp; omega)).trans ((Below.heap_alloc _ _ _ (by simp)).trans (heap_alloc_new W _))
    · exact (Below.heap_alloc _ _ _ (by simp)).trans (by simpa using heap_alloc_new (W.alloc (.cells #[.string (B l)] 9)) (.cells #[.string (B [47])] 9))
    · simpa using heap_alloc_new ((W.alloc (.cells #[.string (B l)] 9)).alloc (.cells #[.string (B [47])] 9)) (.cells #[.int .i64 0] 3)
theorem foldP_append (a b ps : List (List UInt8)) : foldP (a ++ b) ps = (foldP a ps).bind (foldP b) := by
  induction a generalizing ps with
  | nil => rfl
  | cons p a ih =>
    rw [List.cons_append, foldP, foldP]
    split
    · exact ih ps
    · split
      · split
        · rfl
        · exact ih _
      · exact ih _
theorem foldP_none {a b c : List (List UInt8)} (h : a <+: b) (ha : foldP a c = none) : foldP b c = none := by
  obtain ⟨t, rfl⟩ := h
  rw [foldP_append, ha]; rfl
theorem map_snoc_prefix {pl q : List (List UInt8)} {x : ByteArray} (h : (pl.map B ++ [x]) <+: q.map B) : ∃ p, x = B p ∧ (pl ++ [p]) <+: q := by
  obtain ⟨t, ht⟩ := h
  have hlen : pl.length < q.length := by have := congrArg List.length ht; simp at this; omega
  have h1 : pl = q.take pl.length := by
    have := congrArg (List.take pl.length) ht
    rw [List.append_assoc, List.take_left' (by simp), ← List.map_take] at this
    exact (List.map_inj_right (fun _ _ e => B_inj e)).1 this
  have h2 : x = B q[pl.length] := by
    have := congrArg (fun z => z[pl.length]?) ht
    simp [List.getElem?_append, List.getElem?_eq_getElem hlen] at this
    exact this
  refine ⟨q[pl.length], h2, ?_⟩
  have : pl ++ [q[pl.length]] = q.take (pl.length + 1) := by
    rw [List.take_succ_eq_append_getElem hlen, ← h1]
  rw [this]
  exact List.take_prefix _ _
theorem foldP_len (a : List (List UInt8)) : ∀ ps qs, foldP a ps = some qs → qs.length ≤ ps.length + a.length := by
  induction a with
  | nil => intro ps qs h; simp [foldP] at h; subst h; simp
  | cons p a ih =>
    intro ps qs h
    rw [foldP] at h
    split at h
    · have := ih _ _ h; simp; omega
    · split at h
      · split at h
        · cases h
        · have := ih _ _ h; simp at this ⊢; omega
      · have := ih _ _ h; simp at this ⊢; omega
theorem splitK_len (c : UInt8) (k : Nat) (l : List UInt8) : (splitK c k l).length ≤ l.length + 1 := by
  induction l with
  | nil => simp [splitK]
  | cons b l ih =>
    rw [splitK]; split
    · simp; omega
    · split
      · simp
      · rename_i p ps he
        rw [he] at ih
        simp at ih ⊢; omega
structure CInv (N pb bs : Nat) (e : Int) (ps : List (List UInt8)) (W : World) : Prop where
  r1 : W.heap[N]? = some (.cells #[.string (B [])] 9 (0, 0))
  r2 : W.heap[N + 1]? = some (.cells #[.int .i64 e] 27 (0, 0))
  le : bs ≤ W.heap.size
  parts : ∃ v, W.heap[pb]? = some (.cells #[v] 23 (0, 0)) ∧ W.ownsRow bs 9 1 v ps.length (ps.map fun x => Value.string (B x))
theorem heap_keep {W W' : World} {row : Option Nat} {k : Nat} {cs : Array Value} {t : TypeId} (hg : W.grownBy W' row) (hr : ∀ r, row = some r → ∃ o : Obj, W.heap[r]? = some o ∧ o.isCells = false) (h : W.heap[k]? = some (.cells cs t (0, 0))) : W'.heap[k]? = some (.cells cs t (0, 0)) := by
  refine (hg.block k (lt_of_block h) fun e => ?_).trans h
  obtain ⟨o, ho, hc⟩ := hr k e.symm
  rw [h] at ho
  cases ho
  cases hc
theorem CInv.own (N pb bs : Nat) (e : Int) : Own (CInv N pb bs e) := fun ps A C row hs hg hr => by
  obtain ⟨h1, h2, hz, v, hv, ho⟩ := hs
  refine ⟨heap_keep hg hr h1, heap_keep hg hr h2, Nat.le_trans hz hg.size, v, heap_keep hg hr hv, ho.kept hg ?_⟩
  rcases ho.2 with ⟨rfl, _⟩ | ⟨g, cap, cur, rfl, _, hh, _⟩
  · exact .inl rfl
  · right
    intro e
    obtain ⟨o, ho', hc⟩ := hr g e.symm
    rw [hh] at ho'
    cases ho'
    cases hc
theorem CInv.set_other {N pb bs k : Nat} {e : Int} {ps : List (List UInt8)} {W : World} (h : CInv N pb bs e ps W) (hN : N + 1 < k) (hpb : pb < k) (hk : k < bs) (u : Value) : CInv N pb bs e ps (W.setCell ⟨k, 0, none⟩ u) := by
  obtain ⟨h1, h2, hz, v, hv, ho⟩ := h
  exact ⟨(Below.heap_setCell _ _ _ _ (by show N ≠ k; omega)).trans h1, (Below.heap_setCell _ _ _ _ (by show N + 1 ≠ k; omega)).trans h2, by simpa [World.setCell] using hz, v, (Below.heap_setCell _ _ _ _ (by show pb ≠ k; omega)).trans hv, ownsRow_setCell_below ho (a := ⟨k, 0, none⟩) hk u⟩
theorem kept3_set {b k : Nat} (W : World) (u : Value) (h : k < b) : Kept3 b W (W.setCell ⟨k, 0, none⟩ u) :=
  ⟨Below.heap_setCell _ _ _ _ (by show b ≠ k; omega), Below.heap_setCell _ _ _ _ (by show b + 1 ≠ k; omega), Below.heap_setCell _ _ _ _ (by show b + 2 ≠ k; omega)⟩
theorem CInv.fail {N pb bs : Nat} {ps : List (List UInt8)} {W : World} (h : CInv N pb bs 0 ps W) (hN : N + 1 < pb) (hb : pb < bs) :
    CInv N pb bs 5 ps ((W.setCell ⟨N, 0, none⟩ (.string (B []))).setCell ⟨N + 1, 0, none⟩ (.int .i64 5)) := by
  obtain ⟨h1, h2, hz, v, hv, ho⟩ := h
  have g1 := one_setCell (u := .string (B [])) h1
  have g2 : (W.setCell ⟨N, 0, none⟩ (.string (B []))).heap[N + 1]? = _ := (Below.heap_setCell W ⟨N, 0, none⟩ _ (N + 1) (by show N + 1 ≠ N; omega)).trans h2
  refine ⟨(Below.heap_setCell _ _ _ _ (by show N ≠ N + 1; omega)).trans g1, one_setCell g2, by simpa [World.setCell] using hz, v, ?_, ?_⟩
  · exact (Below.heap_setCell _ _ _ _ (by show pb ≠ N + 1; omega)).trans ((Below.heap_setCell _ _ _ _ (by show pb ≠ N; omega)).trans hv)
  · exact ownsRow_setCell_below (ownsRow_setCell_below ho (a := ⟨N, 0, none⟩) (by show N < bs; omega) _) (a := ⟨N + 1, 0, none⟩) (by show N + 1 < bs; omega) _
theorem CInv.put {N pb bs : Nat} {e : Int} {ps qs : List (List UInt8)} {W : World} (h : CInv N pb bs e ps W) (hN : N + 1 < pb) (hb : pb < bs) {u : Value} (ho : W.ownsRow bs 9 1 u qs.length (qs.map fun x => Value.string (B x))) :
    CInv N pb bs e qs (W.setCell ⟨pb, 0, none⟩ u) := by
  obtain ⟨h1, h2, hz, v, hv, _⟩ := h
  exact ⟨(Below.heap_setCell _ _ _ _ (by show N ≠ pb; omega)).trans h1, (Below.heap_setCell _ _ _ _ (by show N + 1 ≠ pb; omega)).trans h2, by simpa [World.setCell] using hz, u, one_setCell hv, ownsRow_setCell_below ho (a := ⟨pb, 0, none⟩) hb u⟩
theorem CInv.push {N pb bs : Nat} {e : Int} {ps qs : List (List UInt8)} {W W' : World} {row : Option Nat} {u : Value} (h : CInv N pb bs e ps W) (hN : N + 1 < pb) (hb : pb < bs) (hg : W.grownBy W' row) (hr : ∀ k, row = some k → bs ≤ k)
    (ho : W'.ownsRow bs 9 1 u qs.length (qs.map fun x => Value.string (B x))) :
    (∃ v, W'.heap[pb]? = some (.cells #[v] 23 (0, 0))) ∧ CInv N pb bs e qs (W'.setCell ⟨pb, 0, none⟩ u) := by
  obtain ⟨h1, h2, hz, v, hv, _⟩ := h
  have keep : ∀ k, k < bs → k < W.heap.size → W'.heap[k]? = W.heap[k]? := fun k hk hl => hg.block k hl (fun e => by have := hr k e.symm; omega)
  have g1 := (keep N (by omega) (lt_of_block h1)).trans h1
  have g2 := (keep _ (by omega) (lt_of_block h2)).trans h2
  have g3 := (keep pb hb (lt_of_block hv)).trans hv
  exact ⟨⟨v, g3⟩, (Below.heap_setCell _ _ _ _ (by show N ≠ pb; omega)).trans g1, (Below.heap_setCell _ _ _ _ (by show N + 1 ≠ pb; omega)).trans g2, by simpa [World.setCell] using Nat.le_trans hz hg.size, u, one_setCell g3, ownsRow_setCell_below ho (a := ⟨pb, 0, none⟩) hb u⟩
theorem kept3_grown {b bs : Nat} {W W' : World} {row : Option Nat} (hg : W.grownBy W' row) (hr : ∀ k, row = some k → bs ≤ k) (hb : b + 2 < bs) (hz : bs ≤ W.heap.size) : Kept3 b W W' := by
  have keep : ∀ k, k < bs → W'.heap[k]? = W.heap[k]? := fun k hk => hg.block k (by omega) (fun e => by have := hr k e.symm; omega)
  exact ⟨keep _ (by omega), keep _ (by omega), keep _ (by omega)⟩
theorem keepsOthers_own {bs n : Nat} {v : Value} {xs : List Value} {W W' : World} (ho : W.ownsRow bs 9 1 v n xs) (hg : W.grownBy W' v.ownBlock) : KeepsOthers W W' := by
  refine ⟨hg.size, fun k o hk hc => (hg.block k (Array.getElem?_eq_some_iff.1 hk).1 fun e => ?_).trans hk⟩
  rcases ho.2 with ⟨rfl, _⟩ | ⟨g, cap, cur, rfl, _, hh, _⟩
  · simp [Value.ownBlock] at e
  · simp only [Value.ownBlock, Option.some.injEq] at e
    subst e
    rw [hh] at hk
    cases hk
    cases hc
def totalP (l : List (List UInt8)) : Nat := (l.map List.length).sum
theorem joinP_len (ps : List (List UInt8)) : (joinP ps).length ≤ totalP ps + ps.length := by
  induction ps with
  | nil => simp [joinP, List.intercalate]
  | cons p ps ih =>
    cases ps with
    | nil => simp [joinP, List.intercalate, totalP]
    | cons q r =>
      have e : joinP (p :: q :: r) = p ++ 47 :: joinP (q :: r) := by simp [joinP, List.intercalate, List.intersperse]
      rw [e]
      simp [totalP] at ih ⊢
      omega
theorem totalP_dropLast (ps : List (List UInt8)) : totalP ps.dropLast ≤ totalP ps := by
  by_cases h : ps = []
  · subst h; simp
  · obtain ⟨qs, q, rfl⟩ : ∃ qs q, ps = qs ++ [q] := ⟨ps.dropLast, ps.getLast h, (List.dropLast_concat_getLast h).symm⟩
    simp [totalP]
theorem foldP_total (a : List (List UInt8)) : ∀ ps qs, foldP a ps = some qs → totalP qs ≤ totalP ps + totalP a := by
  induction a with
  | nil => intro ps qs h; simp [foldP] at h; subst h; simp [totalP]
  | cons p a ih =>
    intro ps qs h
    have hc : totalP (p :: a) = p.length + totalP a := by simp [totalP]
    rw [foldP] at h
    split at h
    · have := ih _ _ h; omega
    · split at h
      · split at h
        · cases h
        · have := ih _ _ h; have := totalP_dropLast ps; omega
      · have := ih _ _ h
        have e : totalP (ps ++ [p]) = totalP ps + p.length := by simp [totalP]
        omega
theorem splitK_total (c : UInt8) (l : List UInt8) : totalP (splitK c 0 l) ≤ l.length := by
  induction l with
  | nil => simp [splitK, totalP]
  | cons b l ih =>
    rw [splitK]; split
    · simp [totalP] at ih ⊢; omega
    · split
      · simp [totalP]
      · rename_i p ps he
        rw [he] at ih
        simp [totalP] at ih ⊢; omega
theorem join_calls (bs : Nat) (v : Value) (ps : List (List UInt8)) (W : World) (ho : W.ownsRow bs 9 1 v ps.length (ps.map fun x => Value.string (B x))) (hl : totalP ps + ps.length ≤ 1000000) :
    Calls Tryz.prog 32 #[v, .string ⟨#[47]⟩] W fun e w' => e = .returned (.string (B (joinP ps))) ∧ Below W.heap.size W w' := by
  by_cases h0 : ps = []
  · subst h0
    obtain ⟨A0, c0, rfl⟩ := own_slice ho
    exact (Tryz.strings_Join_none A0 c0 ⟨#[47]⟩ W).mono fun e w' ⟨he, hw⟩ => ⟨he, hw ▸ Below.refl _ _⟩
  · have hpos := List.length_pos_iff.2 h0
    have ho' := ho
    rcases ho.2 with ⟨_, hz⟩ | ⟨g, cap, cur, rfl, _, hh, hcap1, hcap2, _⟩
    · omega
    have hj : (ps.map B).map (fun x => x.data.toList) = ps := by simp [Function.comp_def]
    have := Tryz.strings_Join g 0 cap (ps.map B) ⟨#[47]⟩ W (fun j x hx => by
      have hj : j < ps.length := by have := (List.getElem?_eq_some_iff.1 hx).1; simpa using this
      have hc := ho'.cellAt j (by omega)
      rw [Nat.zero_add, hc]
      simp [List.getElem?_eq_getElem hj] at hx ⊢
      exact hx) (lt_of_block hh) (by simp; omega) (by simp; omega) (by
        rw [hj]; have := joinP_len ps; show (joinP ps).length ≤ _; omega)
    rw [hj, List.length_map] at this
    exact this
theorem infoStr : (Tryz.prog.info? 9).map (fun i => (i.zero, i.size, i.bytes)) = some (some (.string ⟨#[]⟩), 1, 16) := by kernel_rfl
theorem clean_leave (D N : Nat) (w W : World) (s : ByteArray) (e : Int) (tmps : Array Value) (ht2 : tmps[2]?.getD undef = .pointer (some ⟨N, 0, none⟩)) (ht3 : tmps[3]?.getD undef = .pointer (some ⟨N + 1, 0, none⟩))
    (h1 : W.heap[N]? = some (.cells #[.string s] 9 (0, 0))) (h2 : W.heap[N + 1]? = some (.cells #[.int .i64 e] 27 (0, 0))) (hK : W.heap[D]? = some (.deferred (some []))) (hD : w.heap.size ≤ D) (hB : Below w.heap.size w W) :
    bodyPostM Fence.wide 3 Tryz.prog Tryz.f78 (fun e' w' => e' = .returned (.tuple #[.string s, .int .i64 e]) ∧ Below w.heap.size w w') .ret { tmps := tmps, defers := [{ target := .collected D, args := #[] }] } W := by
  refine ⟨by simp, .inl ⟨_, _, rfl, run_takeDeferred hK, ?_⟩⟩
  have c1 := cell_kept (cell_of_one h1) (grownBy_putObj' _ D (.deferred none)) (fun r e => by cases e; exact ⟨_, hK, rfl⟩)
  have c2 := cell_kept (cell_of_one h2) (grownBy_putObj' _ D (.deferred none)) (fun r e => by cases e; exact ⟨_, hK, rfl⟩)
  refine ⟨.tuple #[.string s, .int .i64 e], ?_, rfl, hB.trans (belowK_b (w := w) (Nat.le_refl _) W D _ _ hD hK rfl rfl)⟩
  simp [results, Tryz.f78, go_sem, ht2, ht3, c1, c2]
attribute [local go_sem] Oper.semAt_some
set_option maxRecDepth 100000 in
set_option maxHeartbeats 8000000 in
theorem clean_main (l : List UInt8) (h : l.length ≤ 1000) (hb : ¬ l.head? = some 47) (hp : l.all plainB = true) (r : List UInt8 × Int) (hr : cleanL l = r) (w : World) :
    Calls Tryz.prog 78 #[.string (B l)] w fun e w' => e = .returned (.tuple #[.string (B r.1), .int .i64 r.2]) ∧ Below w.heap.size w w' := by
  have hs : (B l).size = l.length := size_B l
  have h' : (l.length : Int) ≤ 1000 := by omega
  have HP : Hid (∀ W, Calls Tryz.prog 99 #[.string (B l), .string ⟨#[47]⟩] W fun e w' => e = .returned (.bool false) ∧ W = w') := fun W => by
    have := Tryz.strings_HasPrefix (B l) ⟨#[47]⟩ W
    rw [data_B, hasPrefix_slash, decide_eq_false hb] at this
    exact this.mono fun e w' ⟨he, hw⟩ => ⟨he, hw.symm⟩
  have HI := Lib.hid (idx_calls l (-1) ((idx_plain l).1 hp))
  have HB := Lib.hid hb
  have HPL := Lib.hid hp
  have HR := Lib.hid hr
  clear hb hp hr
  refine (callsIn_wide (n := 3)).1 ?_
  refine callsIn_of_wp_marks Tryz.func78 rfl trivial ?_ rfl
  simp only [Tryz.ntmps78, List.size_toArray, List.length_cons, List.length_nil, Nat.reduceAdd, Nat.reduceSub, Array.replicate_succ, Array.replicate_zero, List.push_toArray, List.append_toArray, List.nil_append, List.cons_append]
  refine wpIn_wide.2 ?_
  obtain ⟨Q, hQ⟩ : ∃ Q, bodyPostM Fence.wide 3 Tryz.prog Tryz.f78 (fun e w' => e = .returned (.tuple #[.string (B r.1), .int .i64 r.2]) ∧ Below w.heap.size w w') = Q := ⟨_, rfl⟩
  rw [hQ]
  have HQ := Lib.hid hQ
  clear hQ
  go_wp2
  go_step3
  go_wp2_with fail
  refine (HP.out _).mono ?_
  rintro e w' ⟨rfl, rfl⟩
  go_wp2_with fail
  refine (HI.out _).mono ?_
  rintro e w1 ⟨rfl, hb⟩
  go_wp2_with fail
  go_step3
  have hd : decide ((1000 : Int) < (l.length : Int)) = false := by simp; omega
  have hlt1 : w.heap.size + 1 < w1.heap.size := by have := hb.size; simp at this; omega
  obtain ⟨W0, hW0⟩ : ∃ W0, w1.alloc (.cells #[.slice none 0 0] 23) = W0 := ⟨_, rfl⟩
  have hz0 : W0.heap.size = w1.heap.size + 1 := by rw [← hW0]; simp
  have b1 : W0.heap[w.heap.size]? = some (.cells #[.string (B [])] 9 (0, 0)) := by
    rw [← hW0]; exact (Below.heap_alloc _ _ _ (by omega)).trans ((hb.block _ (by simp; omega)).trans ((Below.heap_alloc _ _ _ (by simp)).trans (heap_alloc_new w _)))
  have b2 : W0.heap[w.heap.size + 1]? = some (.cells #[.int .i64 0] 27 (0, 0)) := by
    rw [← hW0]; exact (Below.heap_alloc _ _ _ (by omega)).trans ((hb.block _ (by simp)).trans (by simpa using heap_alloc_new (w.alloc _) _))
  have b3 : W0.heap[w1.heap.size]? = some (.cells #[.slice none 0 0] 23 (0, 0)) := by rw [← hW0]; exact heap_alloc_new _ _
  have hB0 : Below w.heap.size w W0 := by
    rw [← hW0]; exact ((((Below.refl _ w).alloc (Nat.le_refl _) _).alloc (by simp) _).trans (hb.mono (by simp; omega))).alloc (by omega) _
  rw [hW0]
  have H1 := Lib.hid b1
  have H2 := Lib.hid b2
  have H3 := Lib.hid b3
  have HB0 := Lib.hid hB0
  have HZ0 := Lib.hid hz0
  clear hW0 hb b1 b2 b3 hB0 hz0
  go_wp2_with fail
  refine (SplitSeq_calls l _).mono ?_
  rintro e w2 ⟨rfl, hb2, hz2, i0, i1, i2⟩
  rw [HZ0.out] at hz2 i0 i1 i2
  have HBB2 := Lib.hid hb2
  have I0 := Lib.hid i0
  have I1 := Lib.hid i1
  have I2 := Lib.hid i2
  have HZ2 := Lib.hid hz2
  clear hb2 i0 i1 i2 hz2
  go_wp2_with fail
  refine wpIn_wide.1 (wp_range_str (gf := 142) (lb := #[.pointer (some ⟨W0.heap.size + 1, 0, none⟩), .pointer (some ⟨W0.heap.size, 0, none⟩), .pointer (some ⟨W0.heap.size + 2, 0, none⟩)]) rfl (enters_of Tryz.func142 (by kernel_rfl) rfl)
    (split_seq 47 0 (by omega) W0.heap.size l (by omega) w2 ?hlt ?i0 ?i1 ?i2) (Below.refl _ _) ?hbw
    (fun pre W => (∃ pl ps, pre = pl.map B ∧ pl <+: splitK 47 0 l ∧ foldP pl [] = some ps ∧ CInv w.heap.size w1.heap.size w2.heap.size 0 ps W) ∧ Below w.heap.size w W)
    (fun c pre W => (c = .ret ∧ foldP (splitK 47 0 l) [] = none ∧ ∃ ps, CInv w.heap.size w1.heap.size w2.heap.size 5 ps W) ∧ Below w.heap.size w W)
    ?hI ?hIx ?hIs ?h0 ?a1 ?assign ?body ?done ?stop)
  case i0 => rw [HZ0.out]; exact I0.out
  case i1 => rw [HZ0.out]; exact I1.out
  case i2 => rw [HZ0.out]; exact I2.out
  case hlt => rw [HZ0.out]; exact HZ2.out
  case hbw => rw [HZ0.out]; exact HZ2.out
  case hI =>
    refine OwnFrom.and (Own.from (fun s A C row hs hg hr => ?_) _) (ownFrom_below (Nat.le_refl _) ?_)
    · obtain ⟨pl, ps, h1, h2, h3, h4⟩ := hs
      exact ⟨pl, ps, h1, h2, h3, CInv.own _ _ _ _ ps A C row h4 hg hr⟩
    · have := HZ2.out; omega
  case hIx =>
    intro c
    refine OwnFrom.and (Own.from (fun s A C row hs hg hr => ?_) _) (ownFrom_below (Nat.le_refl _) ?_)
    · obtain ⟨h1, h2, ps, h4⟩ := hs
      exact ⟨h1, h2, ps, CInv.own _ _ _ _ ps A C row h4 hg hr⟩
    · have := HZ2.out; omega
  case hIs =>
    rintro pre W u ⟨⟨pl, ps, h1, h2, h3, h4⟩, h5⟩
    exact ⟨⟨pl, ps, h1, h2, h3, h4.set_other (by have := HZ0.out; omega) (by have := HZ0.out; omega) (by have := HZ0.out; have := HZ2.out; omega) u⟩, h5.setCell (by show w.heap.size ≤ W0.heap.size; have := HZ0.out; omega) u⟩
  case h0 =>
    refine ⟨⟨[], [], rfl, List.nil_prefix, rfl, (HBB2.out.block _ (by have := HZ0.out; omega)).trans H1.out, (HBB2.out.block _ (by have := HZ0.out; omega)).trans H2.out, Nat.le_refl _, .slice none 0 0, (HBB2.out.block _ (by have := HZ0.out; omega)).trans H3.out, World.ownsRow_nil _ _ _ _⟩, ?_⟩
    exact HB0.out.trans (HBB2.out.mono (by have := HZ0.out; omega))
  case assign =>
    intro l' x W K hK
    simp only [List.zip_toArray, List.zip_cons_cons, List.zip_nil_right, List.foldl_toArray, List.foldl_cons, List.foldl_nil, List.setIfInBounds_toArray, List.set_cons_succ, List.set_cons_zero]
    gi_wp2
    exact hK
  case body =>
    have hpb : w1.heap.size < w2.heap.size := by have := HZ0.out; have := HZ2.out; omega
    rintro l' pre x W ⟨⟨pl, ps, rfl, hpl, hps, hinv⟩, hB⟩ hpx
    obtain ⟨p, rfl, hpp⟩ := map_snoc_prefix hpx
    have hfold : foldP (pl ++ [p]) [] = foldP [p] ps := by rw [foldP_append, hps]; rfl
    have HF := Lib.hid hfold
    have hlp := foldP_len _ _ _ hps
    have hlk := splitK_len 47 0 l
    have hll := hpl.length_le
    have hpn : ps.length ≤ 1001 := by simp at hlp; omega
    have HI := Lib.hid hinv
    have HPP := Lib.hid hpp
    obtain ⟨v, hv, hown⟩ := hinv.parts
    have c1 := cell_of_one hinv.r1
    have f1 := free_of_one hinv.r1
    have c2 := cell_of_one hinv.r2
    have f2 := free_of_one hinv.r2
    have c3 := cell_of_one hv
    have f3 := free_of_one hv
    clear hfold hlp hlk hll hpl hps hpx hpp hinv
    by_cases p0 : p = []
    · subst p0
      gi_wp2_with fail
      exact ⟨KeepsFrom.refl _ _, Kept3.refl _ _, ⟨pl ++ [[]], ps, by simp, HPP.out, by rw [HF.out]; simp [foldP], HI.out⟩, hB⟩
    by_cases p1 : p = [46]
    · subst p1
      gi_wp2_with fail
      exact ⟨KeepsFrom.refl _ _, Kept3.refl _ _, ⟨pl ++ [[46]], ps, by simp, HPP.out, by rw [HF.out]; simp [foldP], HI.out⟩, hB⟩
    by_cases p2 : p = [46, 46]
    · subst p2
      by_cases hps0 : ps = []
      · subst hps0
        obtain ⟨A0, c0, rfl⟩ := own_slice hown
        gi_wp2_with fail
        refine ⟨((KeepsOthers.setCell _ _ _).trans (KeepsOthers.setCell _ _ _)).from _, ⟨rfl, foldP_none HPP.out (by rw [HF.out]; simp [foldP]), [], HI.out.fail hlt1 hpb⟩, ?_⟩
        exact (hB.setCell (Nat.le_refl _) _).setCell (Nat.le_succ _) _
      · obtain ⟨qs, q, rfl⟩ : ∃ qs q, ps = qs ++ [q] := ⟨ps.dropLast, ps.getLast hps0, (List.dropLast_concat_getLast hps0).symm⟩
        rw [List.length_append, List.length_singleton, List.map_append] at hown
        have hown' := hown
        rcases hown'.2 with ⟨_, h0⟩ | ⟨g, cap, cur, rfl, _, _, hcap1, hcap2, _⟩
        · omega
        have hpop := ownsRow_pop (by simp) hown
        have HPOP := Lib.hid hpop
        have hcap3 : ((qs.length : Int)) ≤ (cap : Int) := by omega
        have hq : qs.length ≤ 1001 := by rw [List.length_append] at hpn; omega
        clear hown hown' hpop hpn
        gi_wp2_with fail
        refine ⟨(KeepsOthers.setCell _ _ _).from _, kept3_set _ _ (by have := HZ0.out; omega), ⟨pl ++ [[46, 46]], qs, by simp, HPP.out, by rw [HF.out]; simp [foldP], HI.out.put hlt1 hpb HPOP.out⟩, ?_⟩
        exact hB.setCell (by show w.heap.size ≤ w1.heap.size; omega) _
    · have q0 : p.isEmpty = false := by simpa using p0
      have q1 : (p == [46]) = false := by simpa using p1
      have q2 : (p == [46, 46]) = false := by simpa using p2
      have HFF : Hid (foldP [p] ps = some (ps ++ [p])) := by
        show foldP [p] ps = some (ps ++ [p])
        simp [foldP, p0, p1, p2]
      clear p0 p1 p2
      obtain ⟨i0, hi, hz0, hz1, hz2⟩ := info_parts infoStr
      have hle2 := HI.out.le
      gi_wp2_with (gi_at_builtin; go_must (refine wpListIn_append_own _ rfl _ _ 23 rfl w2.heap.size 9 i0 (.string ⟨#[]⟩) 1 16 Tryz.underlying23 hi hz0 hz1 hz2 rfl (by decide) _ _ _ rfl (hown.alloc _) ⟨W.heap.size, 0, none⟩ 1 1 [.string (B p)] rfl rfl (cell_one_new _ _ _) (by simp [Value.oneCell']) (by unfold maxLen; omega) (by omega) (by simp; omega) ?_; intro v' w3 hown' hgrow _; obtain ⟨g', cap', rfl⟩ := ownsRow_succ hown'; have HG := Lib.hid ((World.grownBy_alloc W _ v.ownBlock).trans hgrow); have HP := Lib.hid (HI.out.push hlt1 hpb HG.out (own_base hown) (qs := ps ++ [p]) (by simpa using hown')); obtain ⟨v3, hv3⟩ := HP.out.1; have k3 := cell_of_one hv3; have m3 := free_of_one hv3; clear hown' hgrow))
      have hKO : KeepsOthers W w3 := keepsOthers_own hown HG.out
      have hK3 : Kept3 W0.heap.size W w3 := kept3_grown HG.out (own_base hown) (by have := HZ0.out; have := HZ2.out; omega) hle2
      have hBW : Below w.heap.size w w3 := hB.grown HG.out hB.size (fun k hk => by have := own_base hown k hk; omega)
      refine ⟨(hKO.trans (KeepsOthers.setCell _ _ _)).from _, hK3.trans (kept3_set _ _ (by have := HZ0.out; omega)), ⟨pl ++ [p], ps ++ [p], by simp, HPP.out, by rw [HF.out, HFF.out], HP.out.2⟩, ?_⟩
      exact hBW.setCell (by show w.heap.size ≤ w1.heap.size; omega) _
  case done =>
    rintro D W hD ⟨⟨pl, ps, hpl, hpre, hps, hinv⟩, hB⟩ hK
    obtain rfl : pl = splitK 47 0 l := ((List.map_inj_right (fun _ _ e => B_inj e)).1 hpl).symm
    obtain ⟨v, hv, hown⟩ := hinv.parts
    have c1 := cell_of_one hinv.r1
    have f1 := free_of_one hinv.r1
    have c2 := cell_of_one hinv.r2
    have f2 := free_of_one hinv.r2
    have c3 := cell_of_one hv
    have f3 := free_of_one hv
    have HPS := Lib.hid hps
    have HIN := Lib.hid hinv
    have ht1 := foldP_total _ _ _ hps
    have ht2 := splitK_total 47 l
    have ht3 := foldP_len _ _ _ hps
    have ht4 := splitK_len 47 0 l
    have HJ := Lib.hid (join_calls w2.heap.size v ps W hown (by simp [totalP] at ht1 ht2 ht3; simp [totalP]; omega))
    have hD2 : w.heap.size ≤ D := by have := HZ0.out; have := HZ2.out; omega
    clear ht1 ht2 ht3 ht4 hown hps hpl hpre hinv
    go_wp2_with fail
    refine HJ.out.mono ?_
    rintro e w4 ⟨rfl, hb4⟩
    have n1 := (hb4.block _ (lt_of_block HIN.out.r1)).trans HIN.out.r1
    have n2 := (hb4.block _ (lt_of_block HIN.out.r2)).trans HIN.out.r2
    have N1 := Lib.hid n1
    have N2 := Lib.hid n2
    have k1 := cell_of_one n1
    have m1 := free_of_one n1
    have k2 := cell_of_one n2
    have m2 := free_of_one n2
    have HK4 := Lib.hid ((hb4.block _ (Array.getElem?_eq_some_iff.1 hK).1).trans hK)
    have HB4 := Lib.hid (hB.trans (hb4.mono hB.size))
    clear c1 f1 c2 f2 c3 f3 n1 n2 hb4 hK hB hv
    by_cases q0 : joinP ps = []
    · have q1 : (joinP ps).isEmpty = true := by simpa using q0
      have hres : r = ([], 5) := by rw [← HR.out]; simp [cleanL, Nat.not_lt.2 h, HB.out, HPL.out, HPS.out, q0]
      have HRES := Lib.hid hres
      clear hres q0
      go_wp2_with fail
      all_goals
        rw [Exit.noGoto_ret, ← HQ.out]
        have s1 := one_setCell (u := .string (B [])) N1.out
        have s2 : (w4.setCell ⟨w.heap.size, 0, none⟩ (.string (B []))).heap[w.heap.size + 1]? = _ := (Below.heap_setCell w4 ⟨w.heap.size, 0, none⟩ _ (w.heap.size + 1) (by show w.heap.size + 1 ≠ w.heap.size; omega)).trans N2.out
        have s3 := one_setCell (u := .int .i64 5) s2
        have s4 := (Below.heap_setCell (w4.setCell ⟨w.heap.size, 0, none⟩ (.string (B []))) ⟨w.heap.size + 1, 0, none⟩ (.int .i64 5) w.heap.size (by show w.heap.size ≠ w.heap.size + 1; omega)).trans s1
        rw [HRES.out]
        exact clean_leave D w.heap.size w _ _ _ _ rfl rfl s4 s3 (((KeepsOthers.setCell _ _ _).trans (KeepsOthers.setCell _ _ _)).same _ _ HK4.out rfl) (by omega) ((HB4.out.setCell (Nat.le_refl _) _).setCell (Nat.le_succ _) _)
    · have q1 : (joinP ps).isEmpty = false := by simpa using q0
      have hjs : (B (joinP ps)).size = (joinP ps).length := size_B _
      by_cases q2 : 100 < (joinP ps).length
      · have hres : r = ([], 3) := by rw [← HR.out]; simp [cleanL, Nat.not_lt.2 h, HB.out, HPL.out, HPS.out, q0, q2]
        have HRES := Lib.hid hres
        have q3 : (100 : Int) < ((joinP ps).length : Int) := by omega
        clear hres q0 q2
        go_wp2_with fail
        all_goals
          rw [Exit.noGoto_ret, ← HQ.out]
          have s1 := one_setCell (u := .string (B [])) N1.out
          have s2 : (w4.setCell ⟨w.heap.size, 0, none⟩ (.string (B []))).heap[w.heap.size + 1]? = _ := (Below.heap_setCell w4 ⟨w.heap.size, 0, none⟩ _ (w.heap.size + 1) (by show w.heap.size + 1 ≠ w.heap.size; omega)).trans N2.out
          have s3 := one_setCell (u := .int .i64 3) s2
          have s4 := (Below.heap_setCell (w4.setCell ⟨w.heap.size, 0, none⟩ (.string (B []))) ⟨w.heap.size + 1, 0, none⟩ (.int .i64 3) w.heap.size (by show w.heap.size ≠ w.heap.size + 1; omega)).trans s1
          rw [HRES.out]
          exact clean_leave D w.heap.size w _ _ _ _ rfl rfl s4 s3 (((KeepsOthers.setCell _ _ _).trans (KeepsOthers.setCell _ _ _)).same _ _ HK4.out rfl) (by omega) ((HB4.out.setCell (Nat.le_refl _) _).setCell (Nat.le_succ _) _)
      · have hres : r = (joinP ps, 0) := by rw [← HR.out]; simp [cleanL, Nat.not_lt.2 h, HB.out, HPL.out, HPS.out, q0, q2]
        have HRES := Lib.hid hres
        have q3 : ((joinP ps).length : Int) ≤ 100 := by omega
        clear hres q0 q2
        go_wp2_with fail
        all_goals
          rw [Exit.noGoto_ret, ← HQ.out]
          have s1 := one_setCell (u := .string (B (joinP ps))) N1.out
          have s2 : (w4.setCell ⟨w.heap.size, 0, none⟩ (.string (B (joinP ps)))).heap[w.heap.size + 1]? = _ := (Below.heap_setCell w4 ⟨w.heap.size, 0, none⟩ _ (w.heap.size + 1) (by show w.heap.size + 1 ≠ w.heap.size; omega)).trans N2.out
          have s3 := one_setCell (u := .int .i64 0) s2
          have s4 := (Below.heap_setCell (w4.setCell ⟨w.heap.size, 0, none⟩ (.string (B (joinP ps)))) ⟨w.heap.size + 1, 0, none⟩ (.int .i64 0) w.heap.size (by show w.heap.size ≠ w.heap.size + 1; omega)).trans s1
          rw [HRES.out]
          exact clean_leave D w.heap.size w _ _ _ _ rfl rfl s4 s3 (((KeepsOthers.setCell _ _ _).trans (KeepsOthers.setCell _ _ _)).same _ _ HK4.out rfl) (by omega) ((HB4.out.setCell (Nat.le_refl _) _).setCell (Nat.le_succ _) _)
  case stop =>
    rintro D c pre W hD hpre ⟨⟨rfl, hnone, ps, hinv⟩, hB⟩ hK
    have hres : r = ([], 5) := by rw [← HR.out]; simp [cleanL, Nat.not_lt.2 h, HB.out, HPL.out, hnone]
    have HRES := Lib.hid hres
    clear hres
    refine wpIn_wide.2 ?_
    go_wp2_with fail
    rw [Exit.noGoto_ret, ← HQ.out, HRES.out]
    exact clean_leave D w.heap.size w _ _ _ _ rfl rfl hinv.r1 hinv.r2 hK (by have := HZ0.out; have := HZ2.out; omega) hB
def path_Clean.f (a0 : ByteArray) : Option (ByteArray × Int) := some (B (cleanL a0.data.toList).1, (cleanL a0.data.toList).2)
theorem clean_any (l : List UInt8) (w : World) :
    Calls Tryz.prog 78 #[.string (B l)] w fun e w' => e = .returned (.tuple #[.string (B (cleanL l).1), .int .i64 (cleanL l).2]) ∧ Below w.heap.size w w' := by
  by_cases h1 : 1000 < l.length
  · have e : cleanL l = ([], 3) := by simp [cleanL, h1]
    rw [e]; exact clean_long l h1 w
  · by_cases h2 : l.head? = some 47
    · have e : cleanL l = ([], 5) := by simp [cleanL, h1, h2]
      rw [e]; exact clean_slash l (by omega) h2 w
    · by_cases h3 : l.all plainB = false
      · have e : cleanL l = ([], 5) := by rw [cleanL, if_neg h1, if_pos (.inr h3)]
        rw [e]; exact clean_bad l (by omega) h2 h3 w
      · exact clean_main l (by omega) h2 (by simpa using h3) _ rfl w
theorem path_Clean.calls (a0 : ByteArray) (r1 : ByteArray) (r2 : Int) (w : World) (h : path_Clean.f a0 = some (r1, r2)) :
    Calls Tryz.prog 78 #[.string a0] w fun e w' => e = .returned (.tuple #[.string r1, .int .i64 r2]) ∧ Below w.heap.size w w' := by
  have h' := Option.some.inj h
  obtain ⟨rfl, rfl⟩ : B (cleanL a0.data.toList).1 = r1 ∧ (cleanL a0.data.toList).2 = r2 := by
    constructor
    · exact congrArg Prod.fst h'
    · exact congrArg Prod.snd h'
  have := clean_any a0.data.toList w
  rwa [← B_of] at this
end Go.Proofs.YtbjekebkgidhaaaGreatDoor.P
end
section
set_option linter.unusedSimpArgs false
set_option linter.unusedVariables false
namespace Go.Proofs.YtbjekebkgidhaaaGreatDoor.Mf
open Go.RowKit Go.Lib Go.Shelf Go.Proofs.YtbjekebkgidhaaaGreatDoor.U Go.Proofs.YtbjekebkgidhaaaGreatDoor.Sc Go.Proofs.YtbjekebkgidhaaaGreatDoor.P
abbrev Er := Nat × Int
def kCommand : Txt := [99, 111, 109, 109, 97, 110, 100]
def kDepfile : Txt := [100, 101, 112, 102, 105, 108, 101]
def kDescription : Txt := [100, 101, 115, 99, 114, 105, 112, 116, 105, 111, 110]
def kRule : Txt := [114, 117, 108, 101]
def kBuild : Txt := [98, 117, 105, 108, 100]
def kDefault : Txt := [100, 101, 102, 97, 117, 108, 116]
def kIn : Txt := [105, 110]
def kOut : Txt := [111, 117, 116]
structure RuleS where
  name : Txt
  texts : MapL
  line : Nat
structure EdgeS where
  outs : List Txt
  ins : List Txt
  imp : List Txt
  ord : List Txt
  rule : Nat
  own : MapL
  line : Nat
structure St where
  file : MapL
  rules : List RuleS
  edges : List EdgeS
  defs : List Txt
  inner : Nat
def St.init : St := ⟨none0, [], [], [], 0⟩
def lv (m : MapL) : Lev := ⟨0, 0, 0, m⟩
def expF (ms : List MapL) (t : Txt) : Txt × Int := expandL (ms.map lv) t
def expE (line : Nat) (ms : List MapL) (t : Txt) : Except Er Txt := if (expF ms t).2 = 0 then .ok (expF ms t).1 else .error (line, (expF ms t).2)
def isSign (w : Txt) : Bool := w == [58] || w == [124] || w == [124, 124]
def cleanE (line : Nat) (s : Txt) : Except Er Txt := if (cleanL s).2 = 0 then .ok (cleanL s).1 else .error (line, 10)
def pathE (line : Nat) (file : MapL) (w : Txt) : Except Er Txt :=
  if isSign w = true then .error (line, 10) else
  match expE line [file] w with
  | .error e => .error e
  | .ok s => cleanE line s
def pathsE (line : Nat) (file : MapL) : List Txt → List Txt → Except Er (List Txt)
  | acc, [] => .ok acc
  | acc, w :: ws => match pathE line file w with
    | .error e => .error e
    | .ok p => pathsE line file (acc ++ [p]) ws
def setE (line : Nat) (text : Txt) : Except Er (Txt × Txt) :=
  if (cutL 61 text).2.2 = true ∧ nameL (trimB (cutL 61 text).1 32) = true then .ok (trimB (cutL 61 text).1 32, Lib.trimLeftB (cutL 61 text).2.1 32) else .error (line, 10)
def ahead (sign : Txt) (ws : List Txt) : List Txt := ws.takeWhile fun w => !(w == sign)
def behind (sign : Txt) (ws : List Txt) : List Txt := (ws.dropWhile fun w => !(w == sign)).tail
def ruleAt (rs : List RuleS) (nm : Txt) : Option Nat := rs.findIdx? fun r => r.name == nm
def closeE (st : St) : Except Er St :=
  if st.inner = 1 then
    match st.rules.getLast? with
    | some r => if (r.texts kCommand).getD [] = [] then .error (r.line, 10) else .ok { st with inner := 0 }
    | none => .ok { st with inner := 0 }
  else .ok { st with inner := 0 }
def ruleE (st : St) (line : Nat) (ws : List Txt) : Except Er St :=
  match ws with
  | [_, nm] => if nameL nm = true ∧ ruleAt st.rules nm = none then .ok { st with rules := st.rules ++ [⟨nm, none0, line⟩], inner := 1 } else .error (line, 10)
  | _ => .error (line, 10)
def buildE (st : St) (line : Nat) (ws : List Txt) : Except Er St :=
  if 200 ≤ st.edges.length then .error (line, 3) else
  let outs := ahead [58] ws.tail
  match outs, behind [58] ws.tail with
  | _ :: _, rn :: r => match ruleAt st.rules rn with
    | none => .error (line, 10)
    | some ri =>
      let rest := ahead [124, 124] r
      match pathsE line st.file [] outs with
      | .error e => .error e
      | .ok o => match pathsE line st.file [] (ahead [124] rest) with
        | .error e => .error e
        | .ok i => match pathsE line st.file [] (behind [124] rest) with
          | .error e => .error e
          | .ok m => match pathsE line st.file [] (behind [124, 124] r) with
            | .error e => .error e
            | .ok d => .ok { st with edges := st.edges ++ [⟨o, i, m, d, ri, none0, line⟩], inner := 2 }
  | _, _ => .error (line, 10)
def targetsE (st : St) (line : Nat) (ws : List Txt) : Except Er St :=
  match ws.tail with
  | [] => .error (line, 10)
  | w :: r => match pathsE line st.file [] (w :: r) with
    | .error e => .error e
    | .ok d => .ok { st with defs := st.defs ++ d }
def setLineE (st : St) (line : Nat) (text : Txt) : Except Er St :=
  match setE line text with
  | .error e => .error e
  | .ok nt => match expE line [st.file] nt.2 with
    | .error e => .error e
    | .ok x => .ok { st with file := upd st.file nt.1 x }
def onLast {α : Type} (f : α → α) : List α → List α
  | [] => []
  | [x] => [f x]
  | x :: y :: r => x :: onLast f (y :: r)
def innerE (st : St) (line : Nat) (text : Txt) : Except Er St :=
  if st.inner = 0 then .error (line, 10) else
  match setE line text with
  | .error e => .error e
  | .ok nt =>
    if st.inner = 1 then
      if nt.1 = kCommand ∨ nt.1 = kDepfile ∨ nt.1 = kDescription then .ok { st with rules := onLast (fun r => { r with texts := upd r.texts nt.1 nt.2 }) st.rules } else .error (line, 10)
    else match expE line [st.file] nt.2 with
      | .error e => .error e
      | .ok x => .ok { st with edges := onLast (fun e => { e with own := upd e.own nt.1 x }) st.edges }
def leftE (st : St) (line : Nat) (text : Txt) : Except Er St :=
  match closeE st with
  | .error e => .error e
  | .ok st => match Lex.words text with
    | [] => .error (line, 10)
    | w :: ws =>
      if w = kRule then ruleE st line (w :: ws)
      else if w = kBuild then buildE st line (w :: ws)
      else if w = kDefault then targetsE st line (w :: ws)
      else setLineE st line text
def takesE (st : St) (l : Ln.LineT) : Except Er St := if l.inner = true then innerE st l.num l.text else leftE st l.num l.text
def linesE : St → List Ln.LineT → Except Er St
  | st, [] => .ok st
  | st, l :: ls => match takesE st l with
    | .error e => .error e
    | .ok st => linesE st ls
structure EdgeO where
  outs : List Txt
  ins : List Txt
  imp : List Txt
  ord : List Txt
  command : Txt
  depfile : Txt
def joinS (ps : List Txt) : Txt := [32].intercalate ps
def endsE (file : MapL) (rules : List RuleS) (e : EdgeS) : Except Er EdgeO :=
  let ms := [upd (upd e.own kIn (joinS e.ins)) kOut (joinS e.outs), file]
  let texts := match rules[e.rule]? with | some r => r.texts | none => none0
  match expE e.line ms ((texts kCommand).getD []) with
  | .error x => .error x
  | .ok c => if c = [] then .error (e.line, 10) else
    match expE e.line ms ((texts kDepfile).getD []) with
    | .error x => .error x
    | .ok d => if d = [] then .ok ⟨e.outs, e.ins, e.imp, e.ord, c, []⟩ else
      match cleanE e.line d with
      | .error x => .error x
      | .ok p => .ok ⟨e.outs, e.ins, e.imp, e.ord, c, p⟩
def endsAll (file : MapL) (rules : List RuleS) : List EdgeS → List EdgeO → Except Er (List EdgeO)
  | [], acc => .ok acc
  | e :: es, acc => match endsE file rules e with
    | .error x => .error x
    | .ok o => endsAll file rules es (acc ++ [o])
def parseE (ls : List Ln.LineT) : Except Er (List EdgeO × List Txt) :=
  match linesE St.init ls with
  | .error e => .error e
  | .ok st => match closeE st with
    | .error e => .error e
    | .ok st => match endsAll st.file st.rules st.edges [] with
      | .error e => .error e
      | .ok es => .ok (es, st.defs)
def parseL (text : Txt) : List EdgeO × List Txt × Nat × Int :=
  if (Ln.linesL text).2.2 = 0 then
    match parseE (Ln.linesL text).1 with
    | .error e => ([], [], e.1, e.2)
    | .ok r => (r.1, r.2, 0, 0)
  else ([], [], (Ln.linesL text).2.1, (Ln.linesL text).2.2)
end Go.Proofs.YtbjekebkgidhaaaGreatDoor.Mf
end
section
set_option linter.unusedSimpArgs false
set_option linter.unusedVariables false
namespace Go.Proofs.YtbjekebkgidhaaaGreatDoor.Mf
open Go.RowKit Go.Lib Go.Shelf Go.Proofs.YtbjekebkgidhaaaGreatDoor.U Go.Proofs.YtbjekebkgidhaaaGreatDoor.Sc Go.Proofs.YtbjekebkgidhaaaGreatDoor.P
def CleanP (p : Txt) : Prop := ∃ s, cleanL s = (p, 0)
theorem ten : (10 : Int) ≠ 0 := by decide
theorem three : (3 : Int) ≠ 0 := by decide
def OkN (n : Nat) : Prop := 0 < n ∧ n ≤ 100000
def Bad (e : Er) : Prop := OkN e.1 ∧ e.2 ≠ 0
structure GoodEdge (e : EdgeS) : Prop where
  line : OkN e.line
  outs : e.outs ≠ []
  p0 : ∀ p ∈ e.outs, CleanP p
  p1 : ∀ p ∈ e.ins, CleanP p
  p2 : ∀ p ∈ e.imp, CleanP p
  p3 : ∀ p ∈ e.ord, CleanP p
structure Good (st : St) : Prop where
  ru : ∀ r ∈ st.rules, OkN r.line
  ed : ∀ e ∈ st.edges, GoodEdge e
  de : ∀ p ∈ st.defs, CleanP p
def GoodE (r : Except Er St) : Prop := match r with | .ok st => Good st | .error e => Bad e
theorem good_init : Good St.init := ⟨fun _ h => (by cases h), fun _ h => (by cases h), fun _ h => (by cases h)⟩
theorem Good.inner {st : St} (h : Good st) (n : Nat) : Good { st with inner := n } := ⟨h.ru, h.ed, h.de⟩
theorem Good.file {st : St} (h : Good st) (n : MapL) : Good { st with file := n } := ⟨h.ru, h.ed, h.de⟩
theorem expE_bad {line : Nat} {ms : List MapL} {t : Txt} {e : Er} (hl : OkN line) (h : expE line ms t = .error e) : Bad e := by
  unfold expE at h
  split at h
  · cases h
  · rename_i h1; injection h with h; subst h; exact ⟨hl, h1⟩
theorem cleanE_bad {line : Nat} {t : Txt} {e : Er} (hl : OkN line) (h : cleanE line t = .error e) : Bad e := by
  unfold cleanE at h
  split at h
  · cases h
  · injection h with h; subst h; exact ⟨hl, ten⟩
theorem cleanE_ok {line : Nat} {t p : Txt} (h : cleanE line t = .ok p) : CleanP p := by
  unfold cleanE at h
  split at h
  · rename_i h1; injection h with h; subst h; exact ⟨t, by rw [← h1]⟩
  · cases h
theorem pathE_bad {line : Nat} {file : MapL} {t : Txt} {e : Er} (hl : OkN line) (h : pathE line file t = .error e) : Bad e := by
  unfold pathE at h
  split at h
  · injection h with h; subst h; exact ⟨hl, ten⟩
  · split at h
    · rename_i h1; injection h with h; subst h; exact expE_bad hl h1
    · exact cleanE_bad hl h
theorem pathE_ok {line : Nat} {file : MapL} {t p : Txt} (h : pathE line file t = .ok p) : CleanP p := by
  unfold pathE at h
  split at h
  · cases h
  · split at h
    · cases h
    · exact cleanE_ok h
theorem pathsE_bad {line : Nat} {file : MapL} (hl : OkN line) : ∀ (ws : List Txt) (acc : List Txt) {e : Er}, pathsE line file acc ws = .error e → Bad e
  | [], acc, e, h => by cases h
  | w :: ws, acc, e, h => by
    unfold pathsE at h
    split at h
    · rename_i h1; injection h with h; subst h; exact pathE_bad hl h1
    · exact pathsE_bad hl ws _ h
theorem pathsE_ok {line : Nat} {file : MapL} : ∀ (ws : List Txt) (acc l : List Txt), (∀ p ∈ acc, CleanP p) → pathsE line file acc ws = .ok l → (∀ p ∈ l, CleanP p) ∧ l.length = acc.length + ws.length
  | [], acc, l, ha, h => by injection h with h; subst h; exact ⟨ha, by simp⟩
  | w :: ws, acc, l, ha, h => by
    unfold pathsE at h
    split at h
    · cases h
    · rename_i p h1
      obtain ⟨a, b⟩ := pathsE_ok ws (acc ++ [p]) l (by intro q hq; rcases List.mem_append.1 hq with hq | hq; exact ha q hq; rw [List.mem_singleton.1 hq]; exact pathE_ok h1) h
      exact ⟨a, by rw [b]; simp; omega⟩
theorem setE_bad {line : Nat} {t : Txt} {e : Er} (hl : OkN line) (h : setE line t = .error e) : Bad e := by
  unfold setE at h
  split at h
  · cases h
  · injection h with h; subst h; exact ⟨hl, ten⟩
theorem mem_onLast {α : Type} {f : α → α} : ∀ (l : List α) {x : α}, x ∈ onLast f l → ∃ y ∈ l, x = y ∨ x = f y
  | [], x, h => by cases h
  | [y], x, h => ⟨y, by simp, .inr (by simpa [onLast] using h)⟩
  | y :: z :: r, x, h => by
    rw [onLast] at h
    rcases List.mem_cons.1 h with rfl | h
    · exact ⟨x, by simp, .inl rfl⟩
    · obtain ⟨a, ha, hx⟩ := mem_onLast (z :: r) h
      exact ⟨a, List.mem_cons_of_mem _ ha, hx⟩
theorem close_good {st : St} (h : Good st) : GoodE (closeE st) := by
  unfold closeE
  split
  · split
    · rename_i r hr
      split
      · exact ⟨h.ru r (List.mem_of_getLast? hr), ten⟩
      · exact h.inner 0
    · exact h.inner 0
  · exact h.inner 0
theorem rule_good {st : St} (h : Good st) {line : Nat} (hl : OkN line) (ws : List Txt) : GoodE (ruleE st line ws) := by
  unfold ruleE
  split
  · split
    · refine ⟨fun r hr => ?_, h.ed, h.de⟩
      rcases List.mem_append.1 hr with hr | hr
      · exact h.ru r hr
      · rw [List.mem_singleton.1 hr]; exact hl
    · exact ⟨hl, ten⟩
  · exact ⟨hl, ten⟩
theorem build_good {st : St} (h : Good st) {line : Nat} (hl : OkN line) (ws : List Txt) : GoodE (buildE st line ws) := by
  unfold buildE
  split
  · exact ⟨hl, three⟩
  · dsimp only
    split
    · rename_i a as_ rn r hA hB
      split
      · exact ⟨hl, ten⟩
      · rename_i ri hri
        split
        · rename_i e he; exact pathsE_bad hl _ _ he
        · rename_i o ho
          split
          · rename_i e he; exact pathsE_bad hl _ _ he
          · rename_i i hi
            split
            · rename_i e he; exact pathsE_bad hl _ _ he
            · rename_i m hm
              split
              · rename_i e he; exact pathsE_bad hl _ _ he
              · rename_i d hd
                refine ⟨h.ru, fun e he => ?_, h.de⟩
                rcases List.mem_append.1 he with he | he
                · exact h.ed e he
                · rw [List.mem_singleton.1 he]
                  have a0 := pathsE_ok _ _ _ (fun _ h => (by cases h)) ho
                  have a1 := pathsE_ok _ _ _ (fun _ h => (by cases h)) hi
                  have a2 := pathsE_ok _ _ _ (fun _ h => (by cases h)) hm
                  have a3 := pathsE_ok _ _ _ (fun _ h => (by cases h)) hd
                  refine ⟨hl, ?_, a0.1, a1.1, a2.1, a3.1⟩
                  intro e0
                  have := a0.2
                  have e1 : o = [] := e0
                  rw [hA, e1] at this
                  simp at this
    · exact ⟨hl, ten⟩
theorem targets_good {st : St} (h : Good st) {line : Nat} (hl : OkN line) (ws : List Txt) : GoodE (targetsE st line ws) := by
  unfold targetsE
  split
  · exact ⟨hl, ten⟩
  · split
    · rename_i e he; exact pathsE_bad hl _ _ he
    · rename_i d hd
      refine ⟨h.ru, h.ed, fun p hp => ?_⟩
      rcases List.mem_append.1 hp with hp | hp
      · exact h.de p hp
      · exact (pathsE_ok _ _ _ (fun _ h => (by cases h)) hd).1 p hp
theorem setLine_good {st : St} (h : Good st) {line : Nat} (hl : OkN line) (t : Txt) : GoodE (setLineE st line t) := by
  unfold setLineE
  split
  · rename_i e he; exact setE_bad hl he
  · split
    · rename_i e he; exact expE_bad hl he
    · exact h.file _
theorem inner_good {st : St} (h : Good st) {line : Nat} (hl : OkN line) (t : Txt) : GoodE (innerE st line t) := by
  unfold innerE
  split
  · exact ⟨hl, ten⟩
  · split
    · rename_i e he; exact setE_bad hl he
    · split
      · split
        · refine ⟨fun r hr => ?_, h.ed, h.de⟩
          obtain ⟨y, hy, e | e⟩ := mem_onLast _ hr
          · rw [e]; exact h.ru y hy
          · rw [e]; exact h.ru y hy
        · exact ⟨hl, ten⟩
      · split
        · rename_i e he; exact expE_bad hl he
        · refine ⟨h.ru, fun e he => ?_, h.de⟩
          obtain ⟨y, hy, e1 | e1⟩ := mem_onLast _ he
          · rw [e1]; exact h.ed y hy
          · rw [e1]; have := h.ed y hy; exact ⟨this.line, this.outs, this.p0, this.p1, this.p2, this.p3⟩
theorem left_good {st : St} (h : Good st) {line : Nat} (hl : OkN line) (t : Txt) : GoodE (leftE st line t) := by
  unfold leftE
  have hc := close_good h
  split
  · rename_i e he; rw [he] at hc; exact hc
  · rename_i st2 he
    rw [he] at hc
    replace hc : Good st2 := hc
    split
    · exact ⟨hl, ten⟩
    · split
      · exact rule_good hc hl _
      · split
        · exact build_good hc hl _
        · split
          · exact targets_good hc hl _
          · exact setLine_good hc hl _
theorem lines_good : ∀ (ls : List Ln.LineT) {st : St}, Good st → (∀ l ∈ ls, OkN l.num) → GoodE (linesE st ls)
  | [], st, h, _ => h
  | l :: ls, st, h, hl => by
    unfold linesE
    have hc : GoodE (takesE st l) := by
      unfold takesE
      split
      · exact inner_good h (hl l (by simp)) _
      · exact left_good h (hl l (by simp)) _
    split
    · rename_i e he; rw [he] at hc; exact hc
    · rename_i st2 he
      rw [he] at hc
      exact lines_good ls hc (fun l h => hl l (List.mem_cons_of_mem _ h))
structure GoodOut (x : EdgeO) : Prop where
  outs : x.outs ≠ []
  cmd : x.command ≠ []
  p0 : ∀ p ∈ x.outs, CleanP p
  p1 : ∀ p ∈ x.ins, CleanP p
  p2 : ∀ p ∈ x.imp, CleanP p
  p3 : ∀ p ∈ x.ord, CleanP p
  dep : x.depfile = [] ∨ CleanP x.depfile
def endsT (file : MapL) (e : EdgeS) (texts : MapL) : Except Er EdgeO :=
  match expE e.line [upd (upd e.own kIn (joinS e.ins)) kOut (joinS e.outs), file] ((texts kCommand).getD []) with
  | .error x => .error x
  | .ok c => if c = [] then .error (e.line, 10) else
    match expE e.line [upd (upd e.own kIn (joinS e.ins)) kOut (joinS e.outs), file] ((texts kDepfile).getD []) with
    | .error x => .error x
    | .ok d => if d = [] then .ok ⟨e.outs, e.ins, e.imp, e.ord, c, []⟩ else
      match cleanE e.line d with
      | .error x => .error x
      | .ok p => .ok ⟨e.outs, e.ins, e.imp, e.ord, c, p⟩
theorem endsE_T (file : MapL) (rules : List RuleS) (e : EdgeS) : endsE file rules e = endsT file e (match rules[e.rule]? with | some r => r.texts | none => none0) := rfl
theorem ends_good {file : MapL} {rules : List RuleS} {e : EdgeS} (h : GoodEdge e) : match endsE file rules e with | .ok x => GoodOut x | .error x => Bad x := by
  rw [endsE_T]
  generalize (match rules[e.rule]? with | some r => r.texts | none => none0) = texts
  unfold endsT
  rcases hc : expE e.line [upd (upd e.own kIn (joinS e.ins)) kOut (joinS e.outs), file] ((texts kCommand).getD []) with x | c
  · exact expE_bad h.line hc
  dsimp only
  by_cases hc0 : c = []
  · rw [if_pos hc0]; exact ⟨h.line, ten⟩
  rw [if_neg hc0]
  rcases hd : expE e.line [upd (upd e.own kIn (joinS e.ins)) kOut (joinS e.outs), file] ((texts kDepfile).getD []) with x | d
  · exact expE_bad h.line hd
  dsimp only
  by_cases hd0 : d = []
  · rw [if_pos hd0]; exact ⟨h.outs, hc0, h.p0, h.p1, h.p2, h.p3, .inl rfl⟩
  rw [if_neg hd0]
  rcases hp : cleanE e.line d with x | p
  · exact cleanE_bad h.line hp
  · exact ⟨h.outs, hc0, h.p0, h.p1, h.p2, h.p3, .inr (cleanE_ok hp)⟩
theorem endsAll_good {file : MapL} {rules : List RuleS} : ∀ (es : List EdgeS) (acc : List EdgeO), (∀ e ∈ es, GoodEdge e) → (∀ x ∈ acc, GoodOut x) → match endsAll file rules es acc with | .ok l => ∀ x ∈ l, GoodOut x | .error x => Bad x
  | [], acc, _, h => h
  | e :: es, acc, he, h => by
    unfold endsAll
    have hg := ends_good (file := file) (rules := rules) (he e (by simp))
    rcases hx : endsE file rules e with x | o
    · rw [hx] at hg; exact hg
    · rw [hx] at hg
      refine endsAll_good es (acc ++ [o]) (fun e h => he e (List.mem_cons_of_mem _ h)) (fun x hx => ?_)
      rcases List.mem_append.1 hx with hx | hx
      · exact h x hx
      · rw [List.mem_singleton.1 hx]; exact hg
theorem parseE_good (ls : List Ln.LineT) (hl : ∀ l ∈ ls, OkN l.num) : match parseE ls with | .ok r => (∀ x ∈ r.1, GoodOut x) ∧ ∀ p ∈ r.2, CleanP p | .error x => Bad x := by
  unfold parseE
  have h := lines_good ls good_init hl
  rcases h1 : linesE St.init ls with e | st
  · rw [h1] at h; exact h
  rw [h1] at h
  replace h : Good st := h
  dsimp only
  have h2 := close_good h
  rcases h3 : closeE st with e | st2
  · rw [h3] at h2; exact h2
  rw [h3] at h2
  replace h2 : Good st2 := h2
  dsimp only
  have h4 := endsAll_good (file := st2.file) (rules := st2.rules) st2.edges [] h2.ed (fun _ h => (by cases h))
  rcases h5 : endsAll st2.file st2.rules st2.edges [] with e | es
  · rw [h5] at h4; exact h4
  · rw [h5] at h4; exact ⟨h4, h2.de⟩
theorem opened_num (i : Nat) (hi : i + 1 ≤ 100000) (s : Txt) (op : Option Ln.LineT) (h : ∀ o, op = some o → OkN o.num) : OkN (Ln.opened i s op).num := by
  cases op with
  | none => exact ⟨Nat.succ_pos i, hi⟩
  | some o => exact h o rfl
theorem linesGo_pos (total : Nat) : ∀ (ss : List Txt) (i : Nat) (out : List Ln.LineT) (op : Option Ln.LineT), i + ss.length ≤ 100000 → (∀ o, op = some o → OkN o.num) → (∀ l ∈ out, OkN l.num) → match Ln.linesGo total ss i out op with | .ok l => ∀ x ∈ l, OkN x.num | .error n => OkN n
  | [], i, out, op, _, _, h => h
  | s :: ss, i, out, op, hN, ho, h => by
    have hi : i + 1 ≤ 100000 := by simp at hN; omega
    have hN' : i + 1 + ss.length ≤ 100000 := by simp at hN; omega
    unfold Ln.linesGo
    by_cases h1 : Ln.okL s = false
    · rw [if_pos h1]; exact ⟨Nat.succ_pos i, hi⟩
    rw [if_neg h1]
    by_cases h2 : op = none ∧ Ln.emptyL s = true
    · rw [if_pos h2]; exact linesGo_pos total ss (i + 1) out none hN' (fun _ h => (by cases h)) h
    rw [if_neg h2]
    by_cases h3 : Ln.oddL s = true
    · rw [if_pos h3]
      by_cases h4 : i + 1 = total
      · rw [if_pos h4]; exact ⟨Nat.succ_pos i, hi⟩
      rw [if_neg h4]
      refine linesGo_pos total ss (i + 1) out _ hN' (fun o e => ?_) h
      injection e with e; subst e; exact opened_num i hi s op ho
    rw [if_neg h3]
    refine linesGo_pos total ss (i + 1) _ none hN' (fun _ h => (by cases h)) (fun l hl => ?_)
    rcases List.mem_append.1 hl with hl | hl
    · exact h l hl
    · rw [List.mem_singleton.1 hl]; exact opened_num i hi s op ho
theorem spl_length (c : UInt8) : ∀ l : Txt, (Ln.spl c l).length ≤ l.length + 1
  | [] => by simp [Ln.spl]
  | b :: l => by
    have ih := spl_length c l
    unfold Ln.spl
    split
    · simp; omega
    · split
      · simp
      · rename_i p ps h
        rw [h] at ih
        simp at ih ⊢; omega
theorem linesL_good (text : Txt) : ((Ln.linesL text).2.2 = 0 → (∀ l ∈ (Ln.linesL text).1, OkN l.num) ∧ (Ln.linesL text).2.1 = 0) ∧ ((Ln.linesL text).2.2 ≠ 0 → (text.length ≤ 16384 ∧ OkN (Ln.linesL text).2.1) ∨ (16384 < text.length ∧ (Ln.linesL text).2.1 = 0 ∧ (Ln.linesL text).2.2 = 3)) := by
  unfold Ln.linesL
  split
  · rename_i hlong
    exact ⟨fun h => (by cases h), fun _ => .inr ⟨hlong, rfl, rfl⟩⟩
  · rename_i hshort
    have hs := spl_length 10 text
    have h := linesGo_pos (Ln.spl 10 text).length (Ln.spl 10 text) 0 [] none (by omega) (fun _ h => (by cases h)) (fun _ h => (by cases h))
    rcases h1 : Ln.linesGo (Ln.spl 10 text).length (Ln.spl 10 text) 0 [] none with n | out
    · rw [h1] at h; exact ⟨fun h => (by cases h), fun _ => .inl ⟨by omega, h⟩⟩
    · rw [h1] at h; exact ⟨fun _ => ⟨h, rfl⟩, fun h => absurd rfl h⟩
theorem parse_good2 (text : Txt) : ((parseL text).2.2.2 ≠ 0 → (parseL text).1 = [] ∧ (parseL text).2.1 = [] ∧ ((text.length ≤ 16384 ∧ OkN (parseL text).2.2.1) ∨ (16384 < text.length ∧ (parseL text).2.2.1 = 0 ∧ (parseL text).2.2.2 = 3))) ∧
    ((parseL text).2.2.2 = 0 → (parseL text).2.2.1 = 0 ∧ (∀ x ∈ (parseL text).1, GoodOut x) ∧ ∀ p ∈ (parseL text).2.1, CleanP p) := by
  obtain ⟨a, b⟩ := linesL_good text
  by_cases hl : text.length ≤ 16384
  · unfold parseL
    split
    · rename_i h0
      obtain ⟨c, d⟩ := a h0
      have h := parseE_good _ c
      rcases h1 : parseE (Ln.linesL text).1 with e | r
      · rw [h1] at h
        exact ⟨fun _ => ⟨rfl, rfl, .inl ⟨hl, h.1⟩⟩, fun h2 => absurd h2 h.2⟩
      · rw [h1] at h
        exact ⟨fun h2 => absurd rfl h2, fun _ => ⟨rfl, h.1, h.2⟩⟩
    · rename_i h0
      exact ⟨fun _ => ⟨rfl, rfl, b h0⟩, fun h2 => absurd h2 h0⟩
  · have e : Ln.linesL text = ([], 0, 3) := by rw [Ln.linesL, if_pos (by omega)]
    unfold parseL
    rw [e]
    exact ⟨fun _ => ⟨rfl, rfl, .inr ⟨by omega, rfl, rfl⟩⟩, fun h => (by cases h)⟩
theorem endsAll_len {file : MapL} {rules : List RuleS} : ∀ (es : List EdgeS) (acc l : List EdgeO), endsAll file rules es acc = .ok l → l.length = acc.length + es.length
  | [], acc, l, h => by injection h with h; subst h; rfl
  | e :: es, acc, l, h => by
    unfold endsAll at h
    split at h
    · cases h
    · have := endsAll_len es _ l h
      simp at this ⊢; omega
def FewE (st : St) : Prop := st.edges.length ≤ 200
def FewR (r : Except Er St) : Prop := match r with | .ok st => FewE st | .error _ => True
theorem onLast_count {α : Type} (f : α → α) : ∀ l : List α, (onLast f l).length = l.length
  | [] => rfl
  | [x] => rfl
  | x :: y :: r => by simp only [onLast, List.length_cons, onLast_count f (y :: r)]
theorem close_few {st : St} (h : FewE st) : FewR (closeE st) := by
  unfold closeE
  split
  · split
    · split
      · trivial
      · exact h
    · exact h
  · exact h
theorem takes_few {st : St} (h : FewE st) (l : Ln.LineT) : FewR (takesE st l) := by
  unfold takesE
  split
  · unfold innerE
    split
    · trivial
    · split
      · trivial
      · split
        · split
          · exact h
          · trivial
        · split
          · trivial
          · show (onLast _ st.edges).length ≤ 200
            rw [onLast_count]; exact h
  · unfold leftE
    have hc := close_few h
    split
    · trivial
    · rename_i st2 he
      rw [he] at hc
      replace hc : FewE st2 := hc
      split
      · trivial
      · split
        · unfold ruleE
          split
          · split
            · exact hc
            · trivial
          · trivial
        · split
          · unfold buildE
            split
            · trivial
            · rename_i h200
              dsimp only
              split
              · split
                · trivial
                · split
                  · trivial
                  · split
                    · trivial
                    · split
                      · trivial
                      · split
                        · trivial
                        · show (st2.edges ++ [_]).length ≤ 200
                          rw [List.length_append, List.length_singleton]; omega
              · trivial
          · split
            · unfold targetsE
              split
              · trivial
              · split
                · trivial
                · exact hc
            · unfold setLineE
              split
              · trivial
              · split
                · trivial
                · exact hc
theorem lines_few : ∀ (ls : List Ln.LineT) {st : St}, FewE st → FewR (linesE st ls)
  | [], st, h => h
  | l :: ls, st, h => by
    unfold linesE
    have hc := takes_few h l
    split
    · trivial
    · rename_i st2 he
      rw [he] at hc
      exact lines_few ls hc
theorem parse_few (text : Txt) : (parseL text).1.length ≤ 200 := by
  unfold parseL
  split
  · unfold parseE
    have h := lines_few (Ln.linesL text).1 (st := St.init) (Nat.zero_le _)
    rcases h4 : linesE St.init (Ln.linesL text).1 with e | st
    · exact Nat.zero_le _
    rw [h4] at h
    replace h : FewE st := h
    dsimp only
    have h2 := close_few h
    rcases h5 : closeE st with e | st2
    · exact Nat.zero_le _
    rw [h5] at h2
    replace h2 : st2.edges.length ≤ 200 := h2
    dsimp only
    rcases h3 : endsAll st2.file st2.rules st2.edges [] with e | es
    · exact Nat.zero_le _
    · have := endsAll_len _ _ _ h3
      have : es.length ≤ 200 := by rw [this]; simpa using h2
      exact this
  · exact Nat.zero_le _
end Go.Proofs.YtbjekebkgidhaaaGreatDoor.Mf
end
section
set_option linter.unusedSimpArgs false
set_option linter.unusedVariables false
namespace Go.Proofs.YtbjekebkgidhaaaGreatDoor.Mf
open Go.RowKit Go.Lib Go.Shelf Go.Proofs.YtbjekebkgidhaaaGreatDoor.U Go.Proofs.YtbjekebkgidhaaaGreatDoor.Sc Go.Proofs.YtbjekebkgidhaaaGreatDoor.P
open Go.Proofs.YtbjekebkgidhaaaGreatDoor.Ln hiding Txt
def mkLine (s : Txt) (n : Nat) : LineT := ⟨s.head? == some 32, trimmedL s, n⟩
def PlainLine (s : Txt) : Prop := (10 : UInt8) ∉ s ∧ okL s = true ∧ emptyL s = false ∧ oddL s = false
instance (s : Txt) : Decidable (PlainLine s) := by unfold PlainLine; infer_instance
def textOf : List Txt → Txt
  | [] => []
  | s :: ls => s ++ 10 :: textOf ls
def numbered : Nat → List Txt → List LineT
  | _, [] => []
  | i, s :: ss => mkLine s (i + 1) :: numbered (i + 1) ss
theorem textOf_append : ∀ a b : List Txt, textOf (a ++ b) = textOf a ++ textOf b
  | [], b => rfl
  | s :: a, b => by simp [textOf, textOf_append a b]
theorem numbered_append : ∀ (a b : List Txt) (i : Nat), numbered i (a ++ b) = numbered i a ++ numbered (i + a.length) b
  | [], b, i => rfl
  | s :: a, b, i => by
    rw [List.cons_append, numbered, numbered_append a b (i + 1), numbered, List.length_cons, List.cons_append]
    rw [show i + 1 + a.length = i + (a.length + 1) by omega]
theorem spl_line (s r : Txt) (h : (10 : UInt8) ∉ s) : spl 10 (s ++ 10 :: r) = s :: spl 10 r := by
  induction s with
  | nil => simp [spl]
  | cons b s ih =>
    have hb : b ≠ 10 := fun e => h (by simp [e])
    have := ih (fun hh => h (List.mem_cons_of_mem _ hh))
    rw [List.cons_append, spl, if_neg hb, this]
theorem spl_text : ∀ ls : List Txt, (∀ s ∈ ls, PlainLine s) → spl 10 (textOf ls) = ls ++ [[]]
  | [], _ => rfl
  | s :: ls, h => by
    rw [textOf, spl_line s _ (h s (by simp)).1, spl_text ls (fun s hs => h s (List.mem_cons_of_mem _ hs))]; rfl
theorem linesGo_text (T : Nat) : ∀ (ls : List Txt) (i : Nat) (out : List LineT), (∀ s ∈ ls, PlainLine s) → linesGo T (ls ++ [[]]) i out none = .ok (out ++ numbered i ls)
  | [], i, out, _ => by
    rw [List.nil_append, linesGo, if_neg (by decide), if_pos ⟨rfl, by decide⟩, linesGo, numbered, List.append_nil]
  | s :: ls, i, out, h => by
    obtain ⟨_, h1, h2, h3⟩ := h s (by simp)
    rw [List.cons_append, linesGo, if_neg (by rw [h1]; decide), if_neg (by rw [h2]; simp), if_neg (by rw [h3]; decide), linesGo_text T ls (i + 1) _ (fun s hs => h s (List.mem_cons_of_mem _ hs)), numbered, List.append_assoc]
    rfl
theorem linesL_text (ls : List Txt) (h : ∀ s ∈ ls, PlainLine s) (hl : (textOf ls).length ≤ 16384) : linesL (textOf ls) = (numbered 0 ls, 0, 0) := by
  rw [linesL, if_neg (by omega), spl_text ls h, linesGo_text _ ls 0 [] h]; rfl
theorem linesE_append : ∀ (a b : List LineT) (st : St), linesE st (a ++ b) = match linesE st a with | .error e => .error e | .ok st => linesE st b
  | [], b, st => rfl
  | l :: a, b, st => by
    rw [List.cons_append, linesE, linesE]
    rcases takesE st l with e | st2
    · rfl
    · exact linesE_append a b st2
end Go.Proofs.YtbjekebkgidhaaaGreatDoor.Mf
end
section
set_option linter.unusedSimpArgs false
set_option linter.unusedVariables false
namespace Go.Proofs.YtbjekebkgidhaaaGreatDoor.Sc
open Go.RowKit Go.Lib Go.Shelf Go.Proofs.YtbjekebkgidhaaaGreatDoorW.PrintWords Go.Proofs.YtbjekebkgidhaaaGreatDoor.U Go.Proofs.YtbjekebkgidhaaaGreatDoor.Idx
def escB (c : UInt8) : Bool := escR c.toNat
def escL : Txt → Txt
  | [] => []
  | c :: r => if escB c = true then 36 :: c :: escL r else c :: escL r
theorem escL_app (a b : Txt) : escL (a ++ b) = escL a ++ escL b := by
  induction a with
  | nil => rfl
  | cons c a ih =>
    rw [List.cons_append, escL, escL, ih]
    split <;> rfl
theorem escL_one (c : UInt8) : escL [c] = if escB c = true then [36, c] else [c] := rfl
theorem escL_len (s : Txt) : (escL s).length = s.length + s.countP escB := by
  induction s with
  | nil => rfl
  | cons c s ih =>
    rw [escL, List.countP_cons]
    split <;> simp [ih] <;> omega
theorem escL_none (s : Txt) (h : s.countP escB = 0) : escL s = s := by
  induction s with
  | nil => rfl
  | cons c s ih =>
    rw [List.countP_cons] at h
    rw [escL]
    by_cases hc : escB c = true
    · rw [if_pos hc] at h; omega
    · rw [if_neg hc, ih (by omega)]
theorem escB_all : ∀ n : Nat, n < 256 → escR n = (n == 36 || n == 32 || n == 58 || n == 124) := by decide +kernel
theorem escB_iff (c : UInt8) : escB c = true ↔ c = 124 ∨ c = 58 ∨ c = 32 ∨ c = 36 := by
  unfold escB
  rw [escB_all _ c.toNat_lt]
  have h : ∀ d : UInt8, (c.toNat == d.toNat) = true ↔ c = d := fun d => by rw [beq_iff_eq]; exact UInt8.toNat_inj
  simp only [Bool.or_eq_true]
  rw [show (36 : Nat) = (36 : UInt8).toNat from rfl, show (32 : Nat) = (32 : UInt8).toNat from rfl, show (58 : Nat) = (58 : UInt8).toNat from rfl, show (124 : Nat) = (124 : UInt8).toNat from rfl, h, h, h, h]
  constructor
  · rintro (((h | h) | h) | h) <;> simp [h]
  · rintro (h | h | h | h) <;> simp [h]
theorem count4 (s : Txt) : s.countP escB = s.count 124 + s.count 58 + s.count 32 + s.count 36 := by
  induction s with
  | nil => rfl
  | cons c s ih =>
    rw [List.countP_cons, List.count_cons, List.count_cons, List.count_cons, List.count_cons, ih]
    have h := escB_iff c
    by_cases h1 : c = 124
    · subst h1; rw [if_pos (by decide)]; simp; omega
    · by_cases h2 : c = 58
      · subst h2; rw [if_pos (by decide)]; simp; omega
      · by_cases h3 : c = 32
        · subst h3; rw [if_pos (by decide)]; simp; omega
        · by_cases h4 : c = 36
          · subst h4; rw [if_pos (by decide)]; simp; omega
          · have : ¬ escB c = true := fun e => by rcases h.1 e with e | e | e | e <;> contradiction
            rw [if_neg this]
            simp [h1, h2, h3, h4]
theorem E_esc (L : List Lev) : ∀ (s out : Txt), out.length + s.length ≤ 16384 → E L (escL s) out false = some (out ++ s, false) := by
  intro s
  induction s with
  | nil => intro out _; rw [escL, E_nil, List.append_nil]
  | cons c s ih =>
    intro out ho
    simp only [List.length_cons] at ho
    rw [escL]
    by_cases hc : escB c = true
    · rw [if_pos hc]
      have hd : dollarL L (c :: escL s) = ([c], escL s, true) := by rw [dollarL, if_pos (show escR c.toNat = true from hc)]
      rw [E_dollar _ out false hd, if_neg (by simp), if_neg (by simp; omega), ih _ (by simp; omega)]
      simp
    · rw [if_neg hc, E_char, ih _ (by simp; omega)]
      · simp
      · rintro rfl; exact hc (by decide)
end Go.Proofs.YtbjekebkgidhaaaGreatDoor.Sc
end
section
set_option linter.unusedSimpArgs false
set_option linter.unusedVariables false
namespace Go.Proofs.YtbjekebkgidhaaaGreatDoor.PTh
open Go.RowKit Go.Proofs.YtbjekebkgidhaaaGreatDoorW.PrintWords Go.Proofs.YtbjekebkgidhaaaGreatDoor.U Go.Proofs.YtbjekebkgidhaaaGreatDoor.P Go.Proofs.YtbjekebkgidhaaaGreatDoor.Rng
abbrev sp (l : List UInt8) : List (List UInt8) := splitK 47 0 l
def Good (p : List UInt8) : Prop := p ≠ [] ∧ p ≠ [46] ∧ p ≠ [46, 46] ∧ (47 : UInt8) ∉ p
theorem sp_none (l : List UInt8) (h : (47 : UInt8) ∉ l) : sp l = [l] := splitK_none 47 0 l h
theorem sp_at (a l : List UInt8) (h : (47 : UInt8) ∉ a) : sp (a ++ 47 :: l) = a :: sp l := by
  have := splitK_at 47 0 a l h
  simpa using this
theorem sp_ne (l : List UInt8) : sp l ≠ [] := splitK_ne 47 0 l
theorem sp_cons {b : UInt8} {l q : List UInt8} {qs : List (List UInt8)} (hb : b ≠ 47) (h : sp l = q :: qs) : sp (b :: l) = (b :: q) :: qs := by
  show splitK 47 0 (b :: l) = _
  rw [splitK, if_neg hb, show splitK 47 0 l = q :: qs from h]
theorem sp_parts (l : List UInt8) : ∀ p ∈ sp l, (47 : UInt8) ∉ p := by
  induction l with
  | nil => intro p hp; simp [splitK] at hp; subst hp; simp
  | cons b l ih =>
    by_cases hb : b = 47
    · subst hb
      have e2 : sp (47 :: l) = [] :: sp l := sp_at [] _ (by simp)
      rw [e2]; intro p hp
      rcases List.mem_cons.1 hp with rfl | hp
      · simp
      · exact ih p hp
    · cases h : sp l with
      | nil => exact absurd h (sp_ne l)
      | cons q qs =>
        rw [h] at ih
        rw [sp_cons hb h]
        intro p hp
        rcases List.mem_cons.1 hp with rfl | hp
        · have := ih q (by simp)
          simp [this, Ne.symm hb]
        · exact ih p (by simp [hp])
theorem sp_sub (f : UInt8 → Bool) (l : List UInt8) (hl : l.all f = true) : ∀ p ∈ sp l, p.all f = true := by
  induction l with
  | nil => intro p hp; simp [splitK] at hp; subst hp; rfl
  | cons b l ih =>
    simp only [List.all_cons, Bool.and_eq_true] at hl
    by_cases hb : b = 47
    · subst hb
      have e2 : sp (47 :: l) = [] :: sp l := sp_at [] _ (by simp)
      rw [e2]; intro p hp
      rcases List.mem_cons.1 hp with rfl | hp
      · rfl
      · exact ih hl.2 p hp
    · have ih := ih hl.2
      cases h : sp l with
      | nil => exact absurd h (sp_ne l)
      | cons q qs =>
        rw [h] at ih
        rw [sp_cons hb h]
        intro p hp
        rcases List.mem_cons.1 hp with rfl | hp
        · simp only [List.all_cons, Bool.and_eq_true]; exact ⟨hl.1, ih q (by simp)⟩
        · exact ih p (by simp [hp])
theorem joinP_nil : joinP [] = [] := rfl
theorem joinP_one (p : List UInt8) : joinP [p] = p := by simp [joinP, List.intercalate, List.intersperse]
theorem joinP_cons (p q : List UInt8) (ps : List (List UInt8)) : joinP (p :: q :: ps) = p ++ 47 :: joinP (q :: ps) := by
  simp [joinP, List.intercalate, List.intersperse]
theorem sp_joinP (ps : List (List UInt8)) (h : ps ≠ []) (hp : ∀ p ∈ ps, (47 : UInt8) ∉ p) : sp (joinP ps) = ps := by
  induction ps with
  | nil => exact absurd rfl h
  | cons q ps ih =>
    cases ps with
    | nil => rw [joinP_one]; exact sp_none q (hp q (by simp))
    | cons r ps => rw [joinP_cons, sp_at _ _ (hp q (by simp)), ih (by simp) (fun p h => hp p (by simp [h]))]
theorem foldP_append (a b s : List (List UInt8)) : foldP (a ++ b) s = (foldP a s).bind (foldP b) := by
  induction a generalizing s with
  | nil => rfl
  | cons p a ih =>
    rw [List.cons_append]
    simp only [foldP]
    by_cases h1 : p = [] ∨ p = [46]
    · rw [if_pos h1, if_pos h1]; exact ih s
    · rw [if_neg h1, if_neg h1]
      by_cases h2 : p = [46, 46]
      · rw [if_pos h2, if_pos h2]
        by_cases h3 : s = []
        · rw [if_pos h3, if_pos h3]; rfl
        · rw [if_neg h3, if_neg h3]; exact ih _
      · rw [if_neg h2, if_neg h2]; exact ih _
theorem foldP_good (qs s : List (List UInt8)) (h : ∀ p ∈ qs, Good p) : foldP qs s = some (s ++ qs) := by
  induction qs generalizing s with
  | nil => simp [foldP]
  | cons p qs ih =>
    obtain ⟨g1, g2, g3, _⟩ := h p (by simp)
    rw [foldP, if_neg (by simp [g1, g2]), if_neg g3, ih _ (fun q hq => h q (by simp [hq]))]
    simp
theorem foldP_keeps (Q : List UInt8 → Prop) (qs s r : List (List UInt8)) (h : foldP qs s = some r) (hq : ∀ p ∈ qs, p ≠ [] → p ≠ [46] → p ≠ [46, 46] → Q p) (hs : ∀ p ∈ s, Q p) : ∀ p ∈ r, Q p := by
  induction qs generalizing s with
  | nil => simp [foldP] at h; subst h; exact hs
  | cons p qs ih =>
    have hq' : ∀ p ∈ qs, p ≠ [] → p ≠ [46] → p ≠ [46, 46] → Q p := fun q hm => hq q (by simp [hm])
    rw [foldP] at h
    by_cases h1 : p = [] ∨ p = [46]
    · rw [if_pos h1] at h; exact ih s h hq' hs
    · rw [if_neg h1] at h
      by_cases h2 : p = [46, 46]
      · rw [if_pos h2] at h
        by_cases h3 : s = []
        · rw [if_pos h3] at h; cases h
        · rw [if_neg h3] at h
          exact ih _ h hq' (fun q hm => hs q (List.dropLast_subset s hm))
      · rw [if_neg h2] at h
        refine ih _ h hq' (fun q hm => ?_)
        rcases List.mem_append.1 hm with hm | hm
        · exact hs q hm
        · obtain rfl := List.mem_singleton.1 hm
          exact hq q (by simp) (fun e => h1 (.inl e)) (fun e => h1 (.inr e)) h2
theorem plain47 : plainB 47 = true := by decide +kernel
theorem joinP_all (f : UInt8 → Bool) (h47 : f 47 = true) (ps : List (List UInt8)) (h : ∀ p ∈ ps, p.all f = true) : (joinP ps).all f = true := by
  induction ps with
  | nil => rfl
  | cons q ps ih =>
    cases ps with
    | nil => rw [joinP_one]; exact h q (by simp)
    | cons r ps =>
      rw [joinP_cons, List.all_append, List.all_cons, h q (by simp), h47, ih (fun p hp => h p (by simp [hp]))]; rfl
structure IsClean (c : List UInt8) (ps : List (List UInt8)) : Prop where
  ne : ps ≠ []
  good : ∀ p ∈ ps, Good p
  plain : ∀ p ∈ ps, p.all plainB = true
  eq : c = joinP ps
  len : c.length ≤ 100
theorem joinP_ne {ps : List (List UInt8)} (h : ps ≠ []) (hg : ∀ p ∈ ps, Good p) : joinP ps ≠ [] := by
  cases ps with
  | nil => exact absurd rfl h
  | cons q ps =>
    have := (hg q (by simp)).1
    cases ps with
    | nil => rw [joinP_one]; exact this
    | cons r ps => rw [joinP_cons]; simp
theorem joinP_head {ps : List (List UInt8)} (hg : ∀ p ∈ ps, Good p) : (joinP ps).head? ≠ some 47 := by
  cases ps with
  | nil => simp [joinP_nil]
  | cons q ps =>
    obtain ⟨h1, _, _, h4⟩ := hg q (by simp)
    have h5 : ∃ b t, q = b :: t := by cases q with | nil => exact absurd rfl h1 | cons b t => exact ⟨b, t, rfl⟩
    obtain ⟨b, t, rfl⟩ := h5
    have hb : b ≠ 47 := fun e => h4 (by simp [e])
    cases ps with
    | nil => rw [joinP_one]; simpa using hb
    | cons r ps => rw [joinP_cons]; simpa using hb
theorem cleanL_of {x : List UInt8} {ps : List (List UInt8)} (hx : x.length ≤ 1000) (hh : x.head? ≠ some 47) (hp : x.all plainB = true) (hf : foldP (sp x) [] = some ps) :
    cleanL x = if joinP ps = [] then ([], 5) else if 100 < (joinP ps).length then ([], 3) else (joinP ps, 0) := by
  rw [cleanL, if_neg (by omega), if_neg (by simp [hh, hp])]
  rw [show splitK 47 0 x = sp x from rfl, hf]
theorem clean_is {l c : List UInt8} (h : cleanL l = (c, 0)) : ∃ ps, IsClean c ps := by
  rw [cleanL] at h
  split at h
  · cases h
  · split at h
    · cases h
    · rename_i h1 h2
      have h2' : l.all plainB = true := by
        cases h3 : l.all plainB with
        | true => rfl
        | false => exact absurd (.inr h3) h2
      cases hf : foldP (splitK 47 0 l) [] with
      | none => rw [hf] at h; cases h
      | some ps =>
        rw [hf] at h
        simp only at h
        split at h
        · cases h
        · split at h
          · cases h
          · rename_i h3 h4
            have hc : joinP ps = c := congrArg Prod.fst h
            refine ⟨ps, ?_, ?_, ?_, hc.symm, by rw [← hc]; omega⟩
            · rintro rfl; exact h3 rfl
            · exact foldP_keeps Good _ _ _ hf (fun p hp a b d => ⟨a, b, d, sp_parts l p hp⟩) (by simp)
            · exact foldP_keeps (fun p => p.all plainB = true) _ _ _ hf (fun p hp _ _ _ => sp_sub plainB l h2' p hp) (by simp)
namespace IsClean
variable {c : List UInt8} {ps : List (List UInt8)} (h : IsClean c ps)
include h
theorem parts : sp c = ps := by rw [h.eq]; exact sp_joinP ps h.ne fun p hp => (h.good p hp).2.2.2
theorem cne : c ≠ [] := by rw [h.eq]; exact joinP_ne h.ne h.good
theorem head : c.head? ≠ some 47 := by rw [h.eq]; exact joinP_head h.good
theorem allp : c.all plainB = true := by rw [h.eq]; exact joinP_all plainB plain47 ps h.plain
theorem again : cleanL c = (c, 0) := by
  have hl := h.len
  rw [cleanL_of (by omega) h.head h.allp (by rw [h.parts]; exact foldP_good ps [] h.good)]
  rw [List.nil_append, ← h.eq, if_neg h.cne, if_neg (by omega)]
end IsClean
end Go.Proofs.YtbjekebkgidhaaaGreatDoor.PTh
end
section
set_option linter.unusedSimpArgs false
set_option linter.unusedVariables false
namespace Go.Proofs.YtbjekebkgidhaaaGreatDoor.Mf
open Go.RowKit Go.Lib Go.Shelf Go.Proofs.YtbjekebkgidhaaaGreatDoor.U Go.Proofs.YtbjekebkgidhaaaGreatDoor.Sc Go.Proofs.YtbjekebkgidhaaaGreatDoor.P
open Go.Proofs.YtbjekebkgidhaaaGreatDoor.Ln hiding Txt
open Go.Proofs.YtbjekebkgidhaaaGreatDoor.Lex (wordsGo flushL Chunks)
theorem digit_range (d : Nat) (h : d < 10) : 48 ≤ (UInt8.ofNat (48 + d)).toNat ∧ (UInt8.ofNat (48 + d)).toNat ≤ 57 ∧ (UInt8.ofNat (48 + d)).toNat = 48 + d := by
  have e : (UInt8.ofNat (48 + d)).toNat = 48 + d := by rw [UInt8.toNat_ofNat']; omega
  omega
theorem digits_all (u : Nat) : ∀ b ∈ Lib.decDigits u, 48 ≤ b.toNat ∧ b.toNat ≤ 57 := by
  induction u using Nat.strongRecOn with
  | _ u ih =>
    unfold Lib.decDigits
    split
    · rename_i h
      intro b hb
      rw [List.mem_singleton.1 hb]
      have := digit_range u h
      exact ⟨this.1, this.2.1⟩
    · rename_i h
      intro b hb
      rcases List.mem_append.1 hb with hb | hb
      · exact ih (u / 10) (by omega) b hb
      · rw [List.mem_singleton.1 hb]
        have := digit_range (u % 10) (by omega)
        exact ⟨this.1, this.2.1⟩
def valD (l : Txt) : Nat := l.foldl (fun a b => a * 10 + (b.toNat - 48)) 0
theorem val_digits (u : Nat) : valD (Lib.decDigits u) = u := by
  induction u using Nat.strongRecOn with
  | _ u ih =>
    unfold Lib.decDigits
    split
    · rename_i h
      have := (digit_range u h).2.2
      simp only [valD, List.foldl_cons, List.foldl_nil]
      omega
    · rename_i h
      have h1 := ih (u / 10) (by omega)
      have h2 := (digit_range (u % 10) (by omega)).2.2
      unfold valD at h1 ⊢
      rw [List.foldl_append, h1]
      simp only [List.foldl_cons, List.foldl_nil]
      omega
def ownN (i : Nat) : Txt := 114 :: Lib.decDigits i
theorem ownN_inj {i j : Nat} (h : ownN i = ownN j) : i = j := by
  injection h with _ h
  rw [← val_digits i, h, val_digits]
def Calm (b : UInt8) : Prop := b ≠ 36 ∧ b ≠ 124 ∧ b ≠ 58 ∧ b ≠ 32 ∧ okR b.toNat = true
theorem calm_plain : ∀ n : Nat, n < 256 → plainR n = true → (n ≠ 36 ∧ n ≠ 124 ∧ n ≠ 58 ∧ n ≠ 32 ∧ okR n = true) := by decide +kernel
theorem Calm.of {b : UInt8} (h : b.toNat ≠ 36 ∧ b.toNat ≠ 124 ∧ b.toNat ≠ 58 ∧ b.toNat ≠ 32 ∧ okR b.toNat = true) : Calm b :=
  ⟨fun e => h.1 (by rw [e]; rfl), fun e => h.2.1 (by rw [e]; rfl), fun e => h.2.2.1 (by rw [e]; rfl), fun e => h.2.2.2.1 (by rw [e]; rfl), h.2.2.2.2⟩
theorem calm_of_plain {b : UInt8} (h : plainB b = true) : Calm b := Calm.of (calm_plain b.toNat b.toNat_lt h)
theorem calm_digit {b : UInt8} (h : 48 ≤ b.toNat ∧ b.toNat ≤ 57) : Calm b := by
  refine Calm.of ⟨by omega, by omega, by omega, by omega, ?_⟩
  unfold okR
  simp; omega
structure NameP (p : Txt) : Prop where
  ne : p ≠ []
  calm : ∀ b ∈ p, Calm b
structure CleanN (p : Txt) : Prop extends NameP p where
  len : p.length ≤ 100
  clean : cleanL p = (p, 0)
theorem CleanN.of {p : Txt} (h : CleanP p) : CleanN p := by
  obtain ⟨s, hs⟩ := h
  obtain ⟨ps, hc⟩ := PTh.clean_is hs
  exact ⟨⟨hc.cne, fun b hb => calm_of_plain (List.all_eq_true.1 hc.allp b hb)⟩, hc.len, hc.again⟩
theorem own_name (i : Nat) : NameP (ownN i) := by
  refine ⟨by simp [ownN], fun b hb => ?_⟩
  rcases List.mem_cons.1 hb with rfl | hb
  · exact Calm.of (by decide)
  · exact calm_digit (digits_all i b hb)
theorem NameP.chunks {p : Txt} (h : NameP p) : Chunks p := by
  have := h.calm
  clear h
  induction p with
  | nil => exact .nil
  | cons b p ih =>
    obtain ⟨h1, h2, h3, h4, _⟩ := this b (by simp)
    exact .one b h1 h2 h3 h4 (ih fun c hc => this c (List.mem_cons_of_mem _ hc))
theorem NameP.not_sign {p : Txt} (h : NameP p) : p ≠ [58] ∧ p ≠ [124] ∧ p ≠ [124, 124] := by
  refine ⟨?_, ?_, ?_⟩
  · rintro rfl; exact (h.calm 58 (by simp)).2.2.1 rfl
  · rintro rfl; exact (h.calm 124 (by simp)).2.1 rfl
  · rintro rfl; exact (h.calm 124 (by simp)).2.1 rfl
def joined (l : List Txt) : Txt := (l.map fun w => 32 :: w).flatten
theorem joined_cons (p : Txt) (l : List Txt) : joined (p :: l) = 32 :: (p ++ joined l) := by simp [joined]
def initW : Txt → List Txt → List Txt
  | _, [] => []
  | w, p :: l => w :: initW p l
def lastW : Txt → List Txt → Txt
  | w, [] => w
  | _, p :: l => lastW p l
theorem init_last : ∀ (l : List Txt) (w : Txt), initW w l ++ [lastW w l] = w :: l
  | [], w => rfl
  | p :: l, w => by simp [initW, lastW, init_last l p]
theorem last_name : ∀ (l : List Txt) (w : Txt), NameP w → (∀ p ∈ l, NameP p) → NameP (lastW w l)
  | [], w, h, _ => h
  | p :: l, w, h, hl => last_name l p (hl p (by simp)) (fun q hq => hl q (List.mem_cons_of_mem _ hq))
theorem flush_name {w : Txt} (h : NameP w) : flushL w = [w] := by unfold flushL; rw [if_neg h.ne]
theorem go_joined : ∀ (l : List Txt) (w r : Txt), NameP w → (∀ p ∈ l, NameP p) → wordsGo (joined l ++ r) w = initW w l ++ wordsGo r (lastW w l)
  | [], w, r, _, _ => rfl
  | p :: l, w, r, hw, hl => by
    have hp := hl p (by simp)
    rw [joined_cons, List.cons_append, List.append_assoc, Lex.go_blank, flush_name hw, hp.chunks.go, List.nil_append, go_joined l p r hp (fun q hq => hl q (List.mem_cons_of_mem _ hq))]
    rfl
def optT (sign : Txt) (l : List Txt) : Txt := if l = [] then [] else 32 :: (sign ++ joined l)
def optW (sign : Txt) (l : List Txt) : List Txt := if l = [] then [] else sign :: l
theorem go_opt1 (l : List Txt) (w r : Txt) (hw : NameP w) (hl : ∀ p ∈ l, NameP p) (R : List Txt) (hR : ∀ v : Txt, NameP v → wordsGo r v = v :: R) : wordsGo (optT [124] l ++ r) w = w :: optW [124] l ++ R := by
  unfold optT optW
  split
  · rw [List.nil_append, hR w hw]; rfl
  · rename_i hne
    obtain ⟨p, l', rfl⟩ := List.exists_cons_of_ne_nil hne
    have hp := hl p (by simp)
    have hl' : ∀ q ∈ l', NameP q := fun q hq => hl q (List.mem_cons_of_mem _ hq)
    rw [joined_cons]
    simp only [List.cons_append, List.nil_append, List.append_assoc]
    rw [Lex.go_blank, flush_name hw, Lex.go_bar _ _ (fun x e => by injection e with e _; exact absurd e (by decide)), Lex.go_blank, hp.chunks.go, List.nil_append, go_joined l' p r hp hl', hR _ (last_name l' p hp hl')]
    have := init_last l' p
    simp only [flushL, List.cons_append, List.nil_append, if_pos, List.append_nil]
    rw [show initW p l' ++ lastW p l' :: R = (initW p l' ++ [lastW p l']) ++ R by simp, this]
    simp
theorem go_opt2 (l : List Txt) (w : Txt) (hw : NameP w) (hl : ∀ p ∈ l, NameP p) : wordsGo (optT [124, 124] l) w = w :: optW [124, 124] l := by
  unfold optT optW
  split
  · rw [wordsGo, flush_name hw]
  · rename_i hne
    obtain ⟨p, l', rfl⟩ := List.exists_cons_of_ne_nil hne
    have hp := hl p (by simp)
    have hl' : ∀ q ∈ l', NameP q := fun q hq => hl q (List.mem_cons_of_mem _ hq)
    rw [joined_cons]
    simp only [List.cons_append, List.nil_append]
    rw [Lex.go_blank, flush_name hw, Lex.go_bars, Lex.go_blank, hp.chunks.go, List.nil_append]
    have := go_joined l' p [] hp hl'
    rw [List.append_nil] at this
    rw [this, wordsGo, flush_name (last_name l' p hp hl'), init_last]
    simp [flushL]
theorem kBuild_name : NameP kBuild := ⟨by decide, fun b hb => by
  simp only [kBuild, List.mem_cons, List.not_mem_nil, or_false] at hb
  rcases hb with rfl | rfl | rfl | rfl | rfl <;> exact Calm.of (by decide)⟩
theorem kDefault_name : NameP kDefault := ⟨by decide, fun b hb => by
  simp only [kDefault, List.mem_cons, List.not_mem_nil, or_false] at hb
  rcases hb with rfl | rfl | rfl | rfl | rfl | rfl | rfl <;> exact Calm.of (by decide)⟩
theorem kRule_name : NameP kRule := ⟨by decide, fun b hb => by
  simp only [kRule, List.mem_cons, List.not_mem_nil, or_false] at hb
  rcases hb with rfl | rfl | rfl | rfl <;> exact Calm.of (by decide)⟩
structure RightO (x : EdgeO) : Prop where
  outs : x.outs ≠ []
  n0 : ∀ p ∈ x.outs, CleanN p
  n1 : ∀ p ∈ x.ins, CleanN p
  n2 : ∀ p ∈ x.imp, CleanN p
  n3 : ∀ p ∈ x.ord, CleanN p
  cne : x.command ≠ []
  cok : okL x.command = true
  dep : x.depfile = [] ∨ CleanN x.depfile
def hLine (i : Nat) : Txt := kRule ++ joined [ownN i]
def cLine (x : EdgeO) : Txt := 32 :: 32 :: (kCommand ++ ([32, 61, 32] ++ escL x.command))
def dLines (x : EdgeO) : List Txt := if x.depfile = [] then [] else [32 :: 32 :: (kDepfile ++ ([32, 61, 32] ++ escL x.depfile))]
def bLine (i : Nat) (x : EdgeO) : Txt := kBuild ++ (joined x.outs ++ (58 :: 32 :: (ownN i ++ (joined x.ins ++ (optT [124] x.imp ++ optT [124, 124] x.ord)))))
def eLines (i : Nat) (x : EdgeO) : List Txt := hLine i :: cLine x :: (dLines x ++ [bLine i x])
def manLines : Nat → List EdgeO → List Txt
  | _, [] => []
  | i, x :: xs => eLines i x ++ manLines (i + 1) xs
def defLines (ds : List Txt) : List Txt := if ds = [] then [] else [kDefault ++ joined ds]
theorem words_h (i : Nat) : Lex.words (hLine i) = [kRule, ownN i] := by
  show wordsGo (kRule ++ joined [ownN i]) [] = _
  rw [kRule_name.chunks.go, List.nil_append]
  have := go_joined [ownN i] kRule [] kRule_name (fun p hp => by rw [List.mem_singleton.1 hp]; exact own_name i)
  rw [List.append_nil] at this
  rw [this]
  show [kRule] ++ wordsGo [] (ownN i) = _
  rw [wordsGo, flush_name (own_name i)]; rfl
theorem words_d (ds : List Txt) (h : ∀ p ∈ ds, NameP p) : Lex.words (kDefault ++ joined ds) = kDefault :: ds := by
  show wordsGo (kDefault ++ joined ds) [] = _
  rw [kDefault_name.chunks.go, List.nil_append]
  have := go_joined ds kDefault [] kDefault_name h
  rw [List.append_nil] at this
  rw [this, wordsGo, flush_name (last_name ds _ kDefault_name h), init_last]
theorem words_b (i : Nat) (x : EdgeO) (h : RightO x) : Lex.words (bLine i x) = kBuild :: (x.outs ++ [58] :: ownN i :: (x.ins ++ (optW [124] x.imp ++ optW [124, 124] x.ord))) := by
  have n0 : ∀ p ∈ x.outs, NameP p := fun p hp => (h.n0 p hp).toNameP
  have n1 : ∀ p ∈ x.ins, NameP p := fun p hp => (h.n1 p hp).toNameP
  have n2 : ∀ p ∈ x.imp, NameP p := fun p hp => (h.n2 p hp).toNameP
  have n3 : ∀ p ∈ x.ord, NameP p := fun p hp => (h.n3 p hp).toNameP
  show wordsGo (bLine i x) [] = _
  unfold bLine
  rw [kBuild_name.chunks.go, List.nil_append, go_joined x.outs kBuild _ kBuild_name n0, Lex.go_colon, flush_name (last_name _ _ kBuild_name n0), Lex.go_blank, (own_name i).chunks.go, List.nil_append,
    go_joined x.ins (ownN i) _ (own_name i) n1, go_opt1 x.imp _ _ (last_name _ _ (own_name i) n1) n2 (optW [124, 124] x.ord) (fun v hv => go_opt2 x.ord v hv n3)]
  have e1 := init_last x.outs kBuild
  have e2 := init_last x.ins (ownN i)
  have f1 : initW kBuild x.outs ++ ([lastW kBuild x.outs] ++ [58] :: (flushL [] ++ (initW (ownN i) x.ins ++ (lastW (ownN i) x.ins :: optW [124] x.imp ++ optW [124, 124] x.ord)))) = (initW kBuild x.outs ++ [lastW kBuild x.outs]) ++ ([58] :: ((initW (ownN i) x.ins ++ [lastW (ownN i) x.ins]) ++ (optW [124] x.imp ++ optW [124, 124] x.ord))) := by simp [flushL]
  rw [f1, e1, e2]
  rfl
end Go.Proofs.YtbjekebkgidhaaaGreatDoor.Mf
end
section
set_option linter.unusedSimpArgs false
set_option linter.unusedVariables false
namespace Go.Proofs.YtbjekebkgidhaaaGreatDoor.Mf
open Go.RowKit Go.Lib Go.Shelf Go.Proofs.YtbjekebkgidhaaaGreatDoor.U Go.Proofs.YtbjekebkgidhaaaGreatDoor.Sc Go.Proofs.YtbjekebkgidhaaaGreatDoor.P
open Go.Proofs.YtbjekebkgidhaaaGreatDoor.Ln hiding Txt
open Go.Proofs.YtbjekebkgidhaaaGreatDoor.Lex (wordsGo flushL Chunks)
theorem trimL_head {c b : UInt8} {l : Txt} (h : b ≠ c) : trimL c (b :: l) = b :: l := by
  have hb : (b == c) = false := beq_eq_false_iff_ne.2 h
  simp [trimL, Lib.trimLeftB, List.dropWhile_cons, hb]
theorem trimL_cons (c : UInt8) (l : Txt) : trimL c (c :: l) = trimL c l := by simp [trimL, Lib.trimLeftB, List.dropWhile_cons]
theorem trimR_snoc (c : UInt8) (l : Txt) : trimR c (l ++ [c]) = trimR c l := by simp [trimR, Lib.trimRightB, List.dropWhile_cons]
theorem trimR_last {c b : UInt8} {l : Txt} (h : b ≠ c) : trimR c (l ++ [b]) = l ++ [b] := by
  have hb : (b == c) = false := beq_eq_false_iff_ne.2 h
  simp [trimR, Lib.trimRightB, List.dropWhile_cons, hb]
theorem odd_snoc36 (l : Txt) : oddL (l ++ [36]) = !oddL l := by
  have := trimR_len 36 l
  unfold oddL
  rw [trimR_snoc, List.length_append, List.length_singleton]
  rw [Bool.eq_iff_iff]
  simp only [Bool.not_eq_true', decide_eq_true_iff, decide_eq_false_iff_not]
  omega
theorem odd_last_ne {b : UInt8} {l : Txt} (h : b ≠ 36) : oddL (l ++ [b]) = false := by
  unfold oddL
  rw [trimR_last h, Nat.sub_self]; rfl
theorem odd_esc (pre : Txt) (hp : oddL pre = false) : ∀ (n : Nat) (t : Txt), t.length = n → oddL (pre ++ escL t) = false := by
  intro n
  induction n with
  | zero =>
    intro t ht
    obtain rfl : t = [] := List.length_eq_zero_iff.1 ht
    rw [escL, List.append_nil]; exact hp
  | succ n ih =>
    intro t ht
    rcases List.eq_nil_or_concat t with rfl | ⟨t', b, rfl⟩
    · simp at ht
    rw [List.concat_eq_append] at ht ⊢
    have h' := ih t' (by rw [List.length_append, List.length_singleton] at ht; omega)
    rw [escL_app, escL_one, ← List.append_assoc]
    by_cases hb : b = 36
    · subst hb
      rw [if_pos (by decide), show ([36, 36] : Txt) = [36] ++ [36] from rfl, ← List.append_assoc, odd_snoc36, odd_snoc36, h']; rfl
    · split
      · rw [show ([36, b] : Txt) = [36] ++ [b] from rfl, ← List.append_assoc]; exact odd_last_ne hb
      · exact odd_last_ne hb
theorem trimmed_id {b c : UInt8} {l m : Txt} (h : m = b :: l) (hb : b ≠ 32) {l2 : Txt} (h2 : m = l2 ++ [c]) (hc : c ≠ 32) : trimmedL m = m := by
  unfold trimmedL
  rw [show trimL 32 m = m by rw [h]; exact trimL_head hb, show trimR 32 m = m by rw [h2]; exact trimR_last hc, if_neg (fun h => Nat.lt_irrefl _ h.1)]
theorem trimmed_set {pre t : Txt} {b : UInt8} {l : Txt} (h : pre = b :: l) (hb : b ≠ 32) (hp : oddL pre = false) (ht : t ≠ []) : trimmedL (32 :: 32 :: (pre ++ escL t)) = pre ++ escL t := by
  have e1 : trimL 32 (32 :: 32 :: (pre ++ escL t)) = pre ++ escL t := by rw [trimL_cons, trimL_cons, h]; exact trimL_head hb
  unfold trimmedL
  rw [e1]
  rcases List.eq_nil_or_concat t with rfl | ⟨t', c, rfl⟩
  · exact absurd rfl ht
  rw [List.concat_eq_append, escL_app, escL_one, ← List.append_assoc]
  by_cases hc : c = 32
  · subst hc
    rw [if_pos (show escB 32 = true by decide), show ([36, 32] : Txt) = [36] ++ [32] from rfl, ← List.append_assoc, trimR_snoc, trimR_last (by decide), if_pos]
    refine ⟨by simp, ?_⟩
    rw [odd_snoc36, odd_esc pre hp _ t' rfl]; rfl
  · have e2 : trimR 32 (pre ++ escL t' ++ (if escB c = true then [36, c] else [c])) = pre ++ escL t' ++ (if escB c = true then [36, c] else [c]) := by
      split
      · rw [show ([36, c] : Txt) = [36] ++ [c] from rfl, ← List.append_assoc]; exact trimR_last hc
      · exact trimR_last hc
    rw [e2, if_neg (fun h => Nat.lt_irrefl _ h.1)]
theorem okL_iff (l : Txt) : okL l = true ↔ ∀ b ∈ l, okR b.toNat = true := by unfold okL; exact List.all_eq_true
theorem okL_app {a b : Txt} (ha : okL a = true) (hb : okL b = true) : okL (a ++ b) = true := by
  unfold okL at *; rw [List.all_append, ha, hb]; rfl
theorem okL_cons {c : UInt8} {b : Txt} (ha : okR c.toNat = true) (hb : okL b = true) : okL (c :: b) = true := by
  unfold okL at *; rw [List.all_cons, ha, hb]; rfl
theorem okL_esc : ∀ t : Txt, okL t = true → okL (escL t) = true
  | [], _ => rfl
  | c :: t, h => by
    unfold okL at h
    rw [List.all_cons, Bool.and_eq_true] at h
    have := okL_esc t h.2
    rw [escL]
    split
    · exact okL_cons (by decide) (okL_cons h.1 this)
    · exact okL_cons h.1 this
theorem NameP.ok {p : Txt} (h : NameP p) : okL p = true := (okL_iff p).2 fun b hb => (h.calm b hb).2.2.2.2
theorem joined_ok : ∀ l : List Txt, (∀ p ∈ l, NameP p) → okL (joined l) = true
  | [], _ => rfl
  | p :: l, h => by
    rw [joined_cons]
    exact okL_cons (by decide) (okL_app (h p (by simp)).ok (joined_ok l fun q hq => h q (List.mem_cons_of_mem _ hq)))
theorem opt_ok {s : Txt} {l : List Txt} (hs : okL s = true) (h : ∀ p ∈ l, NameP p) : okL (optT s l) = true := by
  unfold optT
  split
  · rfl
  · exact okL_cons (by decide) (okL_app hs (joined_ok l h))
theorem plain_of {s : Txt} (h1 : okL s = true) (h2 : emptyL s = false) (h3 : oddL s = false) : PlainLine s := by
  refine ⟨fun h => ?_, h1, h2, h3⟩
  have := (okL_iff s).1 h1 10 h
  exact absurd this (by decide)
theorem empty_head {b : UInt8} {l : Txt} (h : b ≠ 32) (h2 : b ≠ 35) : emptyL (b :: l) = false := by
  unfold emptyL
  rw [trimL_head h]
  exact beq_eq_false_iff_ne.2 h2
theorem empty_two {s : Txt} (h : emptyL s = false) : emptyL (32 :: 32 :: s) = false := by
  unfold emptyL at *
  rw [trimL_cons, trimL_cons]; exact h
theorem last_calm {p : Txt} (h : NameP p) : ∃ l b, p = l ++ [b] ∧ Calm b := by
  rcases List.eq_nil_or_concat p with rfl | ⟨l, b, rfl⟩
  · exact absurd rfl h.ne
  · exact ⟨l, b, List.concat_eq_append, h.calm b (by simp)⟩
theorem joined_last : ∀ (l : List Txt) (w : Txt), (∃ a b, w = a ++ [b] ∧ Calm b) → (∀ p ∈ l, NameP p) → ∃ a b, w ++ joined l = a ++ [b] ∧ Calm b
  | [], w, hw, _ => by simpa [joined] using hw
  | p :: l, w, hw, h => by
    obtain ⟨a, b, e, hb⟩ := last_calm (h p (by simp))
    have := joined_last l (w ++ 32 :: p) ⟨w ++ 32 :: a, b, by rw [e]; simp, hb⟩ (fun q hq => h q (List.mem_cons_of_mem _ hq))
    rw [joined_cons]
    simpa using this
theorem opt_last {s : Txt} (l : List Txt) (w : Txt) (hw : ∃ a b, w = a ++ [b] ∧ Calm b) (h : ∀ p ∈ l, NameP p) : ∃ a b, w ++ optT s l = a ++ [b] ∧ Calm b := by
  unfold optT
  split
  · simpa using hw
  · rename_i hne
    obtain ⟨p, l', rfl⟩ := List.exists_cons_of_ne_nil hne
    obtain ⟨a, b, e, hb⟩ := last_calm (h p (by simp))
    have := joined_last l' (w ++ 32 :: (s ++ 32 :: p)) ⟨w ++ 32 :: (s ++ 32 :: a), b, by rw [e]; simp, hb⟩ (fun q hq => h q (List.mem_cons_of_mem _ hq))
    rw [joined_cons]
    simpa using this
theorem names_of {l : List Txt} (h : ∀ p ∈ l, CleanN p) : ∀ p ∈ l, NameP p := fun p hp => (h p hp).toNameP
theorem bLine_last (i : Nat) (x : EdgeO) (h : RightO x) : ∃ a b, bLine i x = a ++ [b] ∧ Calm b := by
  obtain ⟨a0, b0, e0, hb0⟩ := last_calm (own_name i)
  have h1 := joined_last x.ins (kBuild ++ (joined x.outs ++ (58 :: 32 :: ownN i))) ⟨kBuild ++ (joined x.outs ++ (58 :: 32 :: a0)), b0, by rw [e0]; simp, hb0⟩ (names_of h.n1)
  have h2 := opt_last (s := [124]) x.imp _ h1 (names_of h.n2)
  have h3 := opt_last (s := [124, 124]) x.ord _ h2 (names_of h.n3)
  unfold bLine
  simpa using h3
theorem hLine_last (i : Nat) : ∃ a b, hLine i = a ++ [b] ∧ Calm b :=
  joined_last [ownN i] kRule ⟨[114, 117, 108], 101, rfl, Calm.of (by decide)⟩ (fun p hp => by rw [List.mem_singleton.1 hp]; exact own_name i)
theorem dLine_last (ds : List Txt) (h : ∀ p ∈ ds, NameP p) : ∃ a b, kDefault ++ joined ds = a ++ [b] ∧ Calm b :=
  joined_last ds kDefault ⟨[100, 101, 102, 97, 117, 108], 116, rfl, Calm.of (by decide)⟩ h
theorem h_plain (i : Nat) : PlainLine (hLine i) := by
  obtain ⟨a, b, e, hb⟩ := hLine_last i
  refine plain_of (okL_app (by decide) (joined_ok _ fun p hp => by rw [List.mem_singleton.1 hp]; exact own_name i)) (empty_head (b := 114) (by decide) (by decide)) ?_
  rw [e]; exact odd_last_ne hb.1
theorem b_plain (i : Nat) (x : EdgeO) (h : RightO x) : PlainLine (bLine i x) := by
  obtain ⟨a, b, e, hb⟩ := bLine_last i x h
  refine plain_of ?_ (empty_head (b := 98) (by decide) (by decide)) ?_
  · unfold bLine
    exact okL_app (by decide) (okL_app (joined_ok _ (names_of h.n0)) (okL_cons (by decide) (okL_cons (by decide) (okL_app (own_name i).ok (okL_app (joined_ok _ (names_of h.n1)) (okL_app (opt_ok (by decide) (names_of h.n2)) (opt_ok (by decide) (names_of h.n3))))))))
  · rw [e]; exact odd_last_ne hb.1
theorem d_plain (ds : List Txt) (h : ∀ p ∈ ds, NameP p) : PlainLine (kDefault ++ joined ds) := by
  obtain ⟨a, b, e, hb⟩ := dLine_last ds h
  refine plain_of (okL_app (by decide) (joined_ok _ h)) (empty_head (b := 100) (by decide) (by decide)) ?_
  rw [e]; exact odd_last_ne hb.1
theorem set_plain (K t : Txt) (b : UInt8) (l : Txt) (hK : K = b :: l) (hb : b ≠ 32) (hb2 : b ≠ 35) (hok : okL K = true) (ht : okL t = true) : PlainLine (32 :: 32 :: (K ++ ([32, 61, 32] ++ escL t))) := by
  refine plain_of (okL_cons (by decide) (okL_cons (by decide) (okL_app hok (okL_app (by decide) (okL_esc t ht))))) (empty_two ?_) ?_
  · rw [hK]; exact empty_head hb hb2
  · have := odd_esc (32 :: 32 :: (K ++ [32, 61, 32])) (by
      rw [show (32 : UInt8) :: 32 :: (K ++ [32, 61, 32]) = (32 :: 32 :: (K ++ [32, 61])) ++ [32] by simp]
      exact odd_last_ne (by decide)) _ t rfl
    simpa using this
end Go.Proofs.YtbjekebkgidhaaaGreatDoor.Mf
end
