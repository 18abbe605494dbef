/- Laid together by wip/tools/shake.py from texts of this claim: U, Shelf, Idx, ScopeA, ScopeB, ScopeRune, ScopeC, Build, ScopeD, ScopeE, LinesA, LinesB, LinesC, Lex, Range, Split, PathPlain, PathPred, Clean, MfSpec, MfExp, MapV, MfRead, P0, MfPaths, MfSet, MfCut, MfInv, MfClose, RegG. -/
import Derived.Test.YteniakfclkdlfaaDoorSb1
import Derived.Lib.Hide
import Derived.Shelf.Strings.Builder1
import Derived.Shelf.Strings.Builder2
import Derived.Shelf.Strings.OnBuilder
import Derived.Shelf.Strings.Trim
import Derived.Shelf.Small.Utf8
import Derived.Shelf.Small.Strs
import Derived.Shelf.Strings.Builder2Cap
import Derived.Shelf.Strings.Search1
import Derived.Shelf.Strings.Search2
import Derived.Shelf.Strings.Search3
import Derived.Shelf.Strings.Cut
import Derived.Shelf.Strings.Count
import Derived.Shelf.LaysM
import Derived.Shelf.Strings.Shaped
import Derived.Shelf.GgClosure.StringsIndexFunc
import Derived.Ground.GgwProg
import Derived.Shelf.GgClosure.StringsIndexFuncTop
import Derived.Shelf.Strings.Prefix
import Derived.Shelf.Strings.Split
import Derived.Shelf.Strings.SplitShaped
import Derived.Shelf.Strings.Runes
import Derived.Shelf.Strings.AsciiSet
import Derived.Shelf.Unicode.DecodeSlow
import Derived.Shelf.Unicode.DecodeAny
import Derived.Shelf.Unicode.DecodeLast
import Derived.Shelf.Strings.FuncGrows
import Derived.Shelf.Slices.Turned
import Derived.Test.YteniakfclkdlfaaDoorProg
import Derived.WalkSmall
import Derived.WalkKit
import Derived.Maps.Own
import Derived.Maps.OwnSet
import Derived.Maps.OwnOps
import Derived.Maps.Views
import Derived.Maps.StringElems
import Derived.Maps.AppendAt
import Derived.Below
import Derived.ProofKit
import Derived.WalkSpells
import Derived.Outline
import Derived.Laws.Runes
import Derived.Lib.TrimAscii
import Derived.Deep.QuietTactic
import Derived.BigQuiet
import Derived.RegionTactic
import Derived.Deep.RegionWith
import Derived.Lib.Builder
import Derived.Lib.AppendStr
import Derived.Lib.UnsafeStr
import Derived.Laws.Externs
import Derived.KernelRfl
import Derived.Lib.TrimByte
import Derived.Lib.Split
import Derived.Lib.SplitLaws
import Derived.Lib.IndexBytes
import Derived.RangeFuncNested
import Derived.RangeFuncBound
import Derived.RangeFuncCalls
import Derived.RangeFuncLeaves
import Derived.RangeFuncBox
import Derived.RangeFuncWrites
import Derived.Shelf.Abstract
import Derived.Shelf.RegionOpen
import Derived.OwnWalkIn
import Derived.TacticsInMore
import Derived.LoopNIn
import Derived.LoopIn
import Derived.Sort.LoopGhostIn
import Derived.OneCell
import Derived.Deep.DeepMust
import Derived.WideKeyEntry
import Derived.WalkLawsBesides
import Derived.Deep.Draws
import Derived.Deep.AppendLies
import Derived.OwnWalk
import Derived.Laws.BytesArg
import Derived.Laws.MakeOwn
import Derived.Laws.OwnMore
import Derived.Deep.OwnRows
import Derived.Tactics
import Derived.Lib.ConvBytes
import Derived.Laws.Slices
import Derived.RowKit3
import Derived.Deep.LoopGhost
import Derived.WideLaws
import Derived.Deep.DeepCutAuto
import Derived.Deep.CutBlock
import Derived.Deep.RegionHeld3
import Derived.Laws.Rows
import Derived.ArgAppend
import Derived.Laws.IdiomCopy
import Derived.OrdersHeld
import Derived.Laws.BitsLemmas
import Derived.RowKit
import Derived.Laws.EntriesVeiled
section
set_option linter.unusedSimpArgs false
set_option linter.unusedVariables false
namespace Go.Proofs.YteniakfclkdlfaaDoor.U
open Go.RowKit Go.Proofs.YteniakfclkdlfaaDoorW.PrintWords
abbrev B (l : List UInt8) : ByteArray := ⟨l.toArray⟩
theorem toList_B (l : List UInt8) : (B l).toList = l := by rw [ByteArray.toList_eq]
theorem data_B (l : List UInt8) : (B l).data.toList = l := rfl
theorem size_B (l : List UInt8) : (B l).size = l.length := by simp [ByteArray.size]
theorem B_surj (s : ByteArray) : ∃ l, s = B l := ⟨s.data.toList, by cases s; simp [B]⟩
theorem B_of (s : ByteArray) : s = B s.data.toList := by cases s; simp [B]
theorem B_inj {a b : List UInt8} (h : B a = B b) : a = b := by
  have := congrArg (fun s => s.data.toList) h
  simpa using this
theorem B_append (a b : List UInt8) : B a ++ B b = B (a ++ b) := by
  apply ByteArray.ext
  rw [ByteArray.data_append]
  simp [B]
theorem extract_B (l : List UInt8) (a b : Nat) : (B l).extract a b = B ((l.take b).drop a) := by
  apply ByteArray.ext
  rw [ByteArray.data_extract]
  simp [B, List.extract_eq_take_drop, List.drop_take]
theorem bt_B (l : List UInt8) (i : Nat) (h : i < l.length) : bt (B l) (i : Int) = (l[i].toNat : Int) := by
  have h' : ((i : Int).toNat) < (B l).size := by rw [size_B]; simpa using h
  rw [← bt_at (B l) (i : Int) h']
  rfl
theorem bt_mid (p : List UInt8) (c : UInt8) (r : List UInt8) : bt (B (p ++ c :: r)) (p.length : Int) = (c.toNat : Int) := by
  rw [bt_B _ _ (by simp)]; simp
theorem toNat_eq (c : UInt8) (n : Nat) (hn : n < 256) : ((c.toNat : Int) = (n : Int)) ↔ c = UInt8.ofNat n := by
  constructor
  · intro h
    apply UInt8.toNat_inj.1
    have : c.toNat = n := by omega
    rw [this]; simp [Nat.mod_eq_of_lt hn]
  · rintro rfl
    simp [Nat.mod_eq_of_lt hn]
theorem wrap_id (x : Int) (h0 : -9223372036854775808 ≤ x) (h1 : x ≤ 9223372036854775807) : wrap64 x = x := by
  unfold wrap64; omega
theorem wrap_succ (i : Nat) (h : i < 4611686018427387904) : wrap64 ((i : Int) + 1) = ((i + 1 : Nat) : Int) := by
  rw [wrap_id _ (by omega) (by omega)]; rfl
theorem byte_ne {c d : UInt8} (h : c ≠ d) : ¬ (c.toNat : Int) = (d.toNat : Int) := fun e => h (UInt8.toNat_inj.1 (by omega))
theorem rdOf_B (xs : List ByteArray) (i : Nat) (h : i < xs.length) : rdOf ByteArray.empty xs (i : Int) = xs[i] := by
  simp [rdOf, List.getD_eq_getElem?_getD, h]
theorem Ev.unroll {α : Type} {g : Nat → Option α} {r : α} (h : Ev (fun k => g (k + 1)) r) : Ev g r := Ev.step (fun _ => rfl) h
theorem Ev.some {α : Type} {g : Nat → Option α} {r : α} (h : ∀ k, g k = Option.some r) : Ev g r := ⟨0, fun k _ => h k⟩
theorem Ev.eqn {α : Type} {g : Nat → Option α} {r r' : α} (h : Ev g r) (e : r = r') : Ev g r' := e ▸ h
end Go.Proofs.YteniakfclkdlfaaDoor.U
end
section
namespace Go.Proofs
open Go.Shelf
def Tryd.lays170_ren : Go.Shelf.Ren := ⟨fun | 170 => 79 | n => n, fun | 70 => 107 | 3 => 3 | 0 => 0 | 72 => 109 | 37 => 42 | 5 => 5 | n => n, fun | n => n⟩
theorem Tryd.lays170 : Go.Proofs.Lays.n170 Tryd.prog Tryd.lays170_ren := {
  mixed := by kernel_rfl
  f170 := Tryd.func79.trans (congrArg some (by kernel_rfl))
  t0 := Tryd.underlying0
  a0 := Tryd.isAgg0
  z0 := Tryd.sizeOf0
  v0 := Tryd.zeroValue0
  t3 := Tryd.underlying3
  a3 := Tryd.isAgg3
  z3 := Tryd.sizeOf3
  v3 := Tryd.zeroValue3
  t37 := Tryd.underlying42
  a37 := Tryd.isAgg42
  z37 := Tryd.sizeOf42
  v37 := Tryd.zeroValue42
  t70 := Tryd.underlying107
  a70 := Tryd.isAgg107
  z70 := Tryd.sizeOf107
  v70 := Tryd.zeroValue107
  t72 := Tryd.underlying109
  a72 := Tryd.isAgg109
  z72 := Tryd.sizeOf109
  v72 := Tryd.zeroValue109 }
open Go.RowKit in
theorem Tryd.Builder_Len (B b : Nat) (bs : List Value) (w : World) (h : Lib.IsBuilder 109 5 B b bs w) :
    Calls Tryd.prog 79 #[.pointer (some ⟨b, 0, none⟩)] w fun e w' => e = .returned (.int .i64 bs.length) ∧ w' = w := Any.Builder_Len Tryd.lays170 B b bs w h
def Tryd.lays169_ren : Go.Shelf.Ren := ⟨fun | 169 => 60 | n => n, fun | 70 => 107 | 9 => 9 | 0 => 0 | 72 => 109 | 37 => 42 | 127 => 126 | 3 => 3 | 5 => 5 | n => n, fun | n => n⟩
theorem Tryd.lays169 : Go.Proofs.Lays.n169 Tryd.prog Tryd.lays169_ren := {
  mixed := by kernel_rfl
  f169 := Tryd.func60.trans (congrArg some (by kernel_rfl))
  t0 := Tryd.underlying0
  a0 := Tryd.isAgg0
  z0 := Tryd.sizeOf0
  v0 := Tryd.zeroValue0
  t3 := Tryd.underlying3
  a3 := Tryd.isAgg3
  z3 := Tryd.sizeOf3
  v3 := Tryd.zeroValue3
  t9 := Tryd.underlying9
  a9 := Tryd.isAgg9
  z9 := Tryd.sizeOf9
  v9 := Tryd.zeroValue9
  t37 := Tryd.underlying42
  a37 := Tryd.isAgg42
  z37 := Tryd.sizeOf42
  v37 := Tryd.zeroValue42
  t70 := Tryd.underlying107
  a70 := Tryd.isAgg107
  z70 := Tryd.sizeOf107
  v70 := Tryd.zeroValue107
  t72 := Tryd.underlying109
  a72 := Tryd.isAgg109
  z72 := Tryd.sizeOf109
  v72 := Tryd.zeroValue109
  t127 := Tryd.underlying126
  a127 := Tryd.isAgg126
  z127 := Tryd.sizeOf126
  v127 := Tryd.zeroValue126 }
theorem Tryd.Builder_Extra_169 : Builder.Extra Tryd.prog Tryd.lays169_ren := {
  sizeBuilder := by kernel_rfl
  liesBuilder := by kernel_rfl
  t5 := Tryd.underlying5
  a5 := Tryd.isAgg5
  z5 := Tryd.sizeOf5
  v5 := Tryd.zeroValue5
  infoByte := by kernel_rfl
  cellsByte := by kernel_rfl
  sizeByte := by kernel_rfl
  neB5 := by decide }
open Go.RowKit in
theorem Tryd.Builder_String_any (B b : Nat) (l : List UInt8) (w : World) (h : Lib.IsBuilder 109 5 B b (Lib.byteCells l) w) (hBw : B ≤ w.heap.size) :
    Calls Tryd.prog 60 #[.pointer (some ⟨b, 0, none⟩)] w fun e w' => e = .returned (.string ⟨l.toArray⟩) ∧ Below B w w' := Any.Builder_String_any Tryd.lays169 Tryd.Builder_Extra_169 B b l w h hBw
def Tryd.lays156_ren : Go.Shelf.Ren := ⟨fun | 156 => 37 | 165 => 58 | 166 => 59 | 169 => 60 | 240 => 80 | 241 => 81 | 276 => 94 | 277 => 95 | n => n, fun | 31 => 23 | 9 => 9 | 3 => 3 | 4 => 4 | 0 => 0 | 20 => 20 | 72 => 109 | 76 => 113 | 70 => 107 | 37 => 42 | 75 => 112 | 127 => 126 | 164 => 133 | 5 => 5 | 80 => 115 | n => n, fun | n => n⟩
theorem Tryd.lays156 : Go.Proofs.Lays.n156 Tryd.prog Tryd.lays156_ren := {
  mixed := by kernel_rfl
  f156 := Tryd.func37.trans (congrArg some (by kernel_rfl))
  f165 := Tryd.func58.trans (congrArg some (by kernel_rfl))
  f166 := Tryd.func59.trans (congrArg some (by kernel_rfl))
  f169 := Tryd.func60.trans (congrArg some (by kernel_rfl))
  f240 := Tryd.func80.trans (congrArg some (by kernel_rfl))
  f241 := Tryd.func81.trans (congrArg some (by kernel_rfl))
  f276 := Tryd.func94.trans (congrArg some (by kernel_rfl))
  f277 := Tryd.func95.trans (congrArg some (by kernel_rfl))
  t0 := Tryd.underlying0
  a0 := Tryd.isAgg0
  z0 := Tryd.sizeOf0
  v0 := Tryd.zeroValue0
  t3 := Tryd.underlying3
  a3 := Tryd.isAgg3
  z3 := Tryd.sizeOf3
  v3 := Tryd.zeroValue3
  t4 := Tryd.underlying4
  a4 := Tryd.isAgg4
  z4 := Tryd.sizeOf4
  v4 := Tryd.zeroValue4
  t9 := Tryd.underlying9
  a9 := Tryd.isAgg9
  z9 := Tryd.sizeOf9
  v9 := Tryd.zeroValue9
  t20 := Tryd.underlying20
  a20 := Tryd.isAgg20
  z20 := Tryd.sizeOf20
  v20 := Tryd.zeroValue20
  t31 := Tryd.underlying23
  a31 := Tryd.isAgg23
  z31 := Tryd.sizeOf23
  v31 := Tryd.zeroValue23
  t37 := Tryd.underlying42
  a37 := Tryd.isAgg42
  z37 := Tryd.sizeOf42
  v37 := Tryd.zeroValue42
  t70 := Tryd.underlying107
  a70 := Tryd.isAgg107
  z70 := Tryd.sizeOf107
  v70 := Tryd.zeroValue107
  t72 := Tryd.underlying109
  a72 := Tryd.isAgg109
  z72 := Tryd.sizeOf109
  v72 := Tryd.zeroValue109
  t75 := Tryd.underlying112
  a75 := Tryd.isAgg112
  z75 := Tryd.sizeOf112
  v75 := Tryd.zeroValue112
  t76 := Tryd.underlying113
  a76 := Tryd.isAgg113
  z76 := Tryd.sizeOf113
  v76 := Tryd.zeroValue113
  t127 := Tryd.underlying126
  a127 := Tryd.isAgg126
  z127 := Tryd.sizeOf126
  v127 := Tryd.zeroValue126
  t164 := Tryd.underlying133
  a164 := Tryd.isAgg133
  z164 := Tryd.sizeOf133
  v164 := Tryd.zeroValue133 }
theorem Tryd.Builder_Extra_156 : Builder.Extra Tryd.prog Tryd.lays156_ren := {
  sizeBuilder := by kernel_rfl
  liesBuilder := by kernel_rfl
  t5 := Tryd.underlying5
  a5 := Tryd.isAgg5
  z5 := Tryd.sizeOf5
  v5 := Tryd.zeroValue5
  infoByte := by kernel_rfl
  cellsByte := by kernel_rfl
  sizeByte := by kernel_rfl
  neB5 := by decide }
open Go.RowKit in
theorem Tryd.strings_Join_none (a : Option Addr) (c : Nat) (sep : ByteArray) (w : World) :
    Calls Tryd.prog 37 #[.slice a 0 c, .string sep] w fun e w' => e = .returned (.string ⟨#[]⟩) ∧ w' = w := Any.strings_Join_none Tryd.lays156 Tryd.Builder_Extra_156 a c sep w
open Go.RowKit in
theorem Tryd.strings_Join (bk o c : Nat) (xs : List ByteArray) (sep : ByteArray) (w : World) (hcells : ∀ (j : Nat) x, xs[j]? = some x → w.cell? ⟨bk, o + j, none⟩ = some (.string x)) (hbk : bk < w.heap.size) (hN : xs.length ≤ 140737488355328) (hcap : xs.length ≤ c) (hlen : (Lib.join (xs.map (·.data.toList)) sep.data.toList).length ≤ 140737488355328) :
    Calls Tryd.prog 37 #[.slice (some ⟨bk, o, none⟩) xs.length c, .string sep] w fun e w' => e = .returned (.string ⟨(Lib.join (xs.map (·.data.toList)) sep.data.toList).toArray⟩) ∧ Below w.heap.size w w' := Any.strings_Join Tryd.lays156 Tryd.Builder_Extra_156 bk o c xs sep w hcells hbk hN hcap hlen
def Tryd.lays161_ren : Go.Shelf.Ren := ⟨fun | 161 => 25 | 231 => 42 | 227 => 43 | 233 => 44 | 235 => 45 | 228 => 66 | 197 => 67 | 151 => 68 | 260 => 88 | 152 => 89 | 137 => 101 | 119 => 102 | 224 => 99 | 225 => 98 | 217 => 97 | 266 => 105 | n => n, fun | 9 => 9 | 4 => 4 | 3 => 3 | 5 => 5 | 117 => 95 | 116 => 94 | 0 => 0 | 124 => 98 | 105 => 119 | 21 => 21 | 119 => 139 | 46 => 138 | 139 => 142 | 138 => 141 | n => n, fun | 3 => 1 | 4 => 2 | n => n⟩
theorem Tryd.lays161 : Go.Proofs.Lays.n161 Tryd.prog Tryd.lays161_ren := {
  mixed := by kernel_rfl
  f119 := Tryd.func102.trans (congrArg some (by kernel_rfl))
  f137 := Tryd.func101.trans (congrArg some (by kernel_rfl))
  f151 := Tryd.func68.trans (congrArg some (by kernel_rfl))
  f152 := Tryd.func89.trans (congrArg some (by kernel_rfl))
  f161 := Tryd.func25.trans (congrArg some (by kernel_rfl))
  f197 := Tryd.func67.trans (congrArg some (by kernel_rfl))
  f217 := Tryd.func97.trans (congrArg some (by kernel_rfl))
  f224 := Tryd.func99.trans (congrArg some (by kernel_rfl))
  f225 := Tryd.func98.trans (congrArg some (by kernel_rfl))
  f227 := Tryd.func43.trans (congrArg some (by kernel_rfl))
  f228 := Tryd.func66.trans (congrArg some (by kernel_rfl))
  f231 := Tryd.func42.trans (congrArg some (by kernel_rfl))
  f233 := Tryd.func44.trans (congrArg some (by kernel_rfl))
  f235 := Tryd.func45.trans (congrArg some (by kernel_rfl))
  f260 := Tryd.func88.trans (congrArg some (by kernel_rfl))
  f266 := Tryd.func105.trans (congrArg some (by kernel_rfl))
  t0 := Tryd.underlying0
  a0 := Tryd.isAgg0
  z0 := Tryd.sizeOf0
  v0 := Tryd.zeroValue0
  t3 := Tryd.underlying3
  a3 := Tryd.isAgg3
  z3 := Tryd.sizeOf3
  v3 := Tryd.zeroValue3
  t4 := Tryd.underlying4
  a4 := Tryd.isAgg4
  z4 := Tryd.sizeOf4
  v4 := Tryd.zeroValue4
  t5 := Tryd.underlying5
  a5 := Tryd.isAgg5
  z5 := Tryd.sizeOf5
  v5 := Tryd.zeroValue5
  t9 := Tryd.underlying9
  a9 := Tryd.isAgg9
  z9 := Tryd.sizeOf9
  v9 := Tryd.zeroValue9
  t21 := Tryd.underlying21
  a21 := Tryd.isAgg21
  z21 := Tryd.sizeOf21
  v21 := Tryd.zeroValue21
  t46 := Tryd.underlying138
  a46 := Tryd.isAgg138
  z46 := Tryd.sizeOf138
  v46 := Tryd.zeroValue138
  t105 := Tryd.underlying119
  a105 := Tryd.isAgg119
  z105 := Tryd.sizeOf119
  v105 := Tryd.zeroValue119
  t116 := Tryd.underlying94
  a116 := Tryd.isAgg94
  z116 := Tryd.sizeOf94
  t117 := Tryd.underlying95
  a117 := Tryd.isAgg95
  z117 := Tryd.sizeOf95
  v117 := Tryd.zeroValue95
  t119 := Tryd.underlying139
  a119 := Tryd.isAgg139
  z119 := Tryd.sizeOf139
  t124 := Tryd.underlying98
  a124 := Tryd.isAgg98
  z124 := Tryd.sizeOf98
  v124 := Tryd.zeroValue98
  t138 := Tryd.underlying141
  a138 := Tryd.isAgg141
  z138 := Tryd.sizeOf141
  v138 := Tryd.zeroValue141
  t139 := Tryd.underlying142
  a139 := Tryd.isAgg142
  z139 := Tryd.sizeOf142
  v139 := Tryd.zeroValue142
  g3 := by kernel_rfl
  g4 := by kernel_rfl }
open Go.RowKit in
theorem Tryd.strings_TrimLeft_one (s : ByteArray) (c : UInt8) (hc : c.toNat < 128) (w : World) :
    Calls Tryd.prog 25 #[.string s, .string ⟨#[c]⟩] w fun e w' => e = .returned (.string ⟨(Lib.trimLeftB s.data.toList c).toArray⟩) ∧ w' = w := Any.strings_TrimLeft_one Tryd.lays161 s c hc w
def Tryd.lays162_ren : Go.Shelf.Ren := ⟨fun | 162 => 46 | 232 => 69 | 227 => 43 | 234 => 70 | 236 => 71 | 228 => 66 | 271 => 90 | 151 => 68 | 120 => 103 | 197 => 67 | 152 => 89 | 260 => 88 | 137 => 101 | 119 => 102 | 224 => 99 | 225 => 98 | 217 => 97 | 266 => 105 | n => n, fun | 9 => 9 | 4 => 4 | 3 => 3 | 5 => 5 | 117 => 95 | 116 => 94 | 0 => 0 | 124 => 98 | 21 => 21 | 105 => 119 | 46 => 138 | 119 => 139 | 139 => 142 | 138 => 141 | n => n, fun | 3 => 1 | 4 => 2 | n => n⟩
theorem Tryd.lays162 : Go.Proofs.Lays.n162 Tryd.prog Tryd.lays162_ren := {
  mixed := by kernel_rfl
  f119 := Tryd.func102.trans (congrArg some (by kernel_rfl))
  f120 := Tryd.func103.trans (congrArg some (by kernel_rfl))
  f137 := Tryd.func101.trans (congrArg some (by kernel_rfl))
  f151 := Tryd.func68.trans (congrArg some (by kernel_rfl))
  f152 := Tryd.func89.trans (congrArg some (by kernel_rfl))
  f162 := Tryd.func46.trans (congrArg some (by kernel_rfl))
  f197 := Tryd.func67.trans (congrArg some (by kernel_rfl))
  f217 := Tryd.func97.trans (congrArg some (by kernel_rfl))
  f224 := Tryd.func99.trans (congrArg some (by kernel_rfl))
  f225 := Tryd.func98.trans (congrArg some (by kernel_rfl))
  f227 := Tryd.func43.trans (congrArg some (by kernel_rfl))
  f228 := Tryd.func66.trans (congrArg some (by kernel_rfl))
  f232 := Tryd.func69.trans (congrArg some (by kernel_rfl))
  f234 := Tryd.func70.trans (congrArg some (by kernel_rfl))
  f236 := Tryd.func71.trans (congrArg some (by kernel_rfl))
  f260 := Tryd.func88.trans (congrArg some (by kernel_rfl))
  f266 := Tryd.func105.trans (congrArg some (by kernel_rfl))
  f271 := Tryd.func90.trans (congrArg some (by kernel_rfl))
  t0 := Tryd.underlying0
  a0 := Tryd.isAgg0
  z0 := Tryd.sizeOf0
  v0 := Tryd.zeroValue0
  t3 := Tryd.underlying3
  a3 := Tryd.isAgg3
  z3 := Tryd.sizeOf3
  v3 := Tryd.zeroValue3
  t4 := Tryd.underlying4
  a4 := Tryd.isAgg4
  z4 := Tryd.sizeOf4
  v4 := Tryd.zeroValue4
  t5 := Tryd.underlying5
  a5 := Tryd.isAgg5
  z5 := Tryd.sizeOf5
  v5 := Tryd.zeroValue5
  t9 := Tryd.underlying9
  a9 := Tryd.isAgg9
  z9 := Tryd.sizeOf9
  v9 := Tryd.zeroValue9
  t21 := Tryd.underlying21
  a21 := Tryd.isAgg21
  z21 := Tryd.sizeOf21
  v21 := Tryd.zeroValue21
  t46 := Tryd.underlying138
  a46 := Tryd.isAgg138
  z46 := Tryd.sizeOf138
  v46 := Tryd.zeroValue138
  t105 := Tryd.underlying119
  a105 := Tryd.isAgg119
  z105 := Tryd.sizeOf119
  v105 := Tryd.zeroValue119
  t116 := Tryd.underlying94
  a116 := Tryd.isAgg94
  z116 := Tryd.sizeOf94
  t117 := Tryd.underlying95
  a117 := Tryd.isAgg95
  z117 := Tryd.sizeOf95
  v117 := Tryd.zeroValue95
  t119 := Tryd.underlying139
  a119 := Tryd.isAgg139
  z119 := Tryd.sizeOf139
  t124 := Tryd.underlying98
  a124 := Tryd.isAgg98
  z124 := Tryd.sizeOf98
  v124 := Tryd.zeroValue98
  t138 := Tryd.underlying141
  a138 := Tryd.isAgg141
  z138 := Tryd.sizeOf141
  v138 := Tryd.zeroValue141
  t139 := Tryd.underlying142
  a139 := Tryd.isAgg142
  z139 := Tryd.sizeOf142
  v139 := Tryd.zeroValue142
  g3 := by kernel_rfl
  g4 := by kernel_rfl }
open Go.RowKit in
theorem Tryd.strings_TrimRight_one (s : ByteArray) (c : UInt8) (hc : c.toNat < 128) (w : World) (hs : s.size ≤ 9223372036854775807) :
    Calls Tryd.prog 46 #[.string s, .string ⟨#[c]⟩] w fun e w' => e = .returned (.string ⟨(Lib.trimRightB s.data.toList c).toArray⟩) ∧ w' = w := Any.strings_TrimRight_one Tryd.lays162 s c hc w hs
def Tryd.lays160_ren : Go.Shelf.Ren := ⟨fun | 160 => 48 | 232 => 69 | 231 => 42 | 227 => 43 | 234 => 70 | 233 => 44 | 236 => 71 | 235 => 45 | 228 => 66 | 271 => 90 | 151 => 68 | 197 => 67 | 120 => 103 | 152 => 89 | 260 => 88 | 137 => 101 | 119 => 102 | 224 => 99 | 225 => 98 | 217 => 97 | 266 => 105 | n => n, fun | 9 => 9 | 4 => 4 | 3 => 3 | 5 => 5 | 117 => 95 | 116 => 94 | 0 => 0 | 124 => 98 | 21 => 21 | 105 => 119 | 46 => 138 | 119 => 139 | 139 => 142 | 138 => 141 | n => n, fun | 3 => 1 | 4 => 2 | n => n⟩
theorem Tryd.lays160 : Go.Proofs.Lays.n160 Tryd.prog Tryd.lays160_ren := {
  mixed := by kernel_rfl
  f119 := Tryd.func102.trans (congrArg some (by kernel_rfl))
  f120 := Tryd.func103.trans (congrArg some (by kernel_rfl))
  f137 := Tryd.func101.trans (congrArg some (by kernel_rfl))
  f151 := Tryd.func68.trans (congrArg some (by kernel_rfl))
  f152 := Tryd.func89.trans (congrArg some (by kernel_rfl))
  f160 := Tryd.func48.trans (congrArg some (by kernel_rfl))
  f197 := Tryd.func67.trans (congrArg some (by kernel_rfl))
  f217 := Tryd.func97.trans (congrArg some (by kernel_rfl))
  f224 := Tryd.func99.trans (congrArg some (by kernel_rfl))
  f225 := Tryd.func98.trans (congrArg some (by kernel_rfl))
  f227 := Tryd.func43.trans (congrArg some (by kernel_rfl))
  f228 := Tryd.func66.trans (congrArg some (by kernel_rfl))
  f231 := Tryd.func42.trans (congrArg some (by kernel_rfl))
  f232 := Tryd.func69.trans (congrArg some (by kernel_rfl))
  f233 := Tryd.func44.trans (congrArg some (by kernel_rfl))
  f234 := Tryd.func70.trans (congrArg some (by kernel_rfl))
  f235 := Tryd.func45.trans (congrArg some (by kernel_rfl))
  f236 := Tryd.func71.trans (congrArg some (by kernel_rfl))
  f260 := Tryd.func88.trans (congrArg some (by kernel_rfl))
  f266 := Tryd.func105.trans (congrArg some (by kernel_rfl))
  f271 := Tryd.func90.trans (congrArg some (by kernel_rfl))
  t0 := Tryd.underlying0
  a0 := Tryd.isAgg0
  z0 := Tryd.sizeOf0
  v0 := Tryd.zeroValue0
  t3 := Tryd.underlying3
  a3 := Tryd.isAgg3
  z3 := Tryd.sizeOf3
  v3 := Tryd.zeroValue3
  t4 := Tryd.underlying4
  a4 := Tryd.isAgg4
  z4 := Tryd.sizeOf4
  v4 := Tryd.zeroValue4
  t5 := Tryd.underlying5
  a5 := Tryd.isAgg5
  z5 := Tryd.sizeOf5
  v5 := Tryd.zeroValue5
  t9 := Tryd.underlying9
  a9 := Tryd.isAgg9
  z9 := Tryd.sizeOf9
  v9 := Tryd.zeroValue9
  t21 := Tryd.underlying21
  a21 := Tryd.isAgg21
  z21 := Tryd.sizeOf21
  v21 := Tryd.zeroValue21
  t46 := Tryd.underlying138
  a46 := Tryd.isAgg138
  z46 := Tryd.sizeOf138
  v46 := Tryd.zeroValue138
  t105 := Tryd.underlying119
  a105 := Tryd.isAgg119
  z105 := Tryd.sizeOf119
  v105 := Tryd.zeroValue119
  t116 := Tryd.underlying94
  a116 := Tryd.isAgg94
  z116 := Tryd.sizeOf94
  t117 := Tryd.underlying95
  a117 := Tryd.isAgg95
  z117 := Tryd.sizeOf95
  v117 := Tryd.zeroValue95
  t119 := Tryd.underlying139
  a119 := Tryd.isAgg139
  z119 := Tryd.sizeOf139
  t124 := Tryd.underlying98
  a124 := Tryd.isAgg98
  z124 := Tryd.sizeOf98
  v124 := Tryd.zeroValue98
  t138 := Tryd.underlying141
  a138 := Tryd.isAgg141
  z138 := Tryd.sizeOf141
  v138 := Tryd.zeroValue141
  t139 := Tryd.underlying142
  a139 := Tryd.isAgg142
  z139 := Tryd.sizeOf142
  v139 := Tryd.zeroValue142
  g3 := by kernel_rfl
  g4 := by kernel_rfl }
open Go.RowKit in
theorem Tryd.strings_Trim_one (s : ByteArray) (c : UInt8) (hc : c.toNat < 128) (w : World) (hs : s.size ≤ 9223372036854775807) :
    Calls Tryd.prog 48 #[.string s, .string ⟨#[c]⟩] w fun e w' => e = .returned (.string ⟨(Lib.trimB s.data.toList c).toArray⟩) ∧ (w' = w ∨ w' = w.drew) := Any.strings_Trim_one Tryd.lays160 s c hc w hs
def Tryd.lays119_ren : Go.Shelf.Ren := ⟨fun | 119 => 102 | n => n, fun | 21 => 21 | 4 => 4 | n => n, fun | n => n⟩
theorem Tryd.lays119 : Go.Proofs.Lays.n119 Tryd.prog Tryd.lays119_ren := {
  mixed := by kernel_rfl
  f119 := Tryd.func102.trans (congrArg some (by kernel_rfl))
  t4 := Tryd.underlying4
  a4 := Tryd.isAgg4
  z4 := Tryd.sizeOf4
  v4 := Tryd.zeroValue4
  t21 := Tryd.underlying21
  a21 := Tryd.isAgg21
  z21 := Tryd.sizeOf21
  v21 := Tryd.zeroValue21 }
theorem Tryd.utf8_ValidRune (r : Int) (w : World) :
    Calls Tryd.prog 102 #[.int .i32 r] w fun e w' => e = .returned (.bool (Lib.validRune r)) ∧ w' = w := Any.utf8_ValidRune Tryd.lays119 r w
def Tryd.lays137_ren : Go.Shelf.Ren := ⟨fun | 137 => 101 | 217 => 97 | 266 => 105 | n => n, fun | 9 => 9 | 5 => 5 | 3 => 3 | n => n, fun | n => n⟩
theorem Tryd.lays137 : Go.Proofs.Lays.n137 Tryd.prog Tryd.lays137_ren := {
  mixed := by kernel_rfl
  f137 := Tryd.func101.trans (congrArg some (by kernel_rfl))
  f217 := Tryd.func97.trans (congrArg some (by kernel_rfl))
  f266 := Tryd.func105.trans (congrArg some (by kernel_rfl))
  t3 := Tryd.underlying3
  a3 := Tryd.isAgg3
  z3 := Tryd.sizeOf3
  v3 := Tryd.zeroValue3
  t5 := Tryd.underlying5
  a5 := Tryd.isAgg5
  z5 := Tryd.sizeOf5
  v5 := Tryd.zeroValue5
  t9 := Tryd.underlying9
  a9 := Tryd.isAgg9
  z9 := Tryd.sizeOf9
  v9 := Tryd.zeroValue9 }
open Go.RowKit in
theorem Tryd.strings_IndexByte (s : ByteArray) (c : Int) (w : World) :
    Calls Tryd.prog 101 #[.string s, .int .u8 c] w fun e w' => e = .returned (.int .i64 (Lib.indexByte s.data.toList c.toNat.toUInt8)) ∧ w' = w := Any.strings_IndexByte Tryd.lays137 s c w
def Tryd.lays219_ren : Go.Shelf.Ren := ⟨fun | 219 => 87 | 217 => 97 | 225 => 98 | 224 => 99 | 267 => 100 | 266 => 105 | 314 => 106 | n => n, fun | 9 => 9 | 3 => 3 | 4 => 4 | 5 => 5 | 46 => 138 | 146 => 145 | 51 => 144 | n => n, fun | 1 => 0 | n => n⟩
theorem Tryd.lays219 : Go.Proofs.Lays.n219 Tryd.prog Tryd.lays219_ren := {
  mixed := by kernel_rfl
  f217 := Tryd.func97.trans (congrArg some (by kernel_rfl))
  f219 := Tryd.func87.trans (congrArg some (by kernel_rfl))
  f224 := Tryd.func99.trans (congrArg some (by kernel_rfl))
  f225 := Tryd.func98.trans (congrArg some (by kernel_rfl))
  f266 := Tryd.func105.trans (congrArg some (by kernel_rfl))
  f267 := Tryd.func100.trans (congrArg some (by kernel_rfl))
  f314 := Tryd.func106.trans (congrArg some (by kernel_rfl))
  t3 := Tryd.underlying3
  a3 := Tryd.isAgg3
  z3 := Tryd.sizeOf3
  v3 := Tryd.zeroValue3
  t4 := Tryd.underlying4
  a4 := Tryd.isAgg4
  z4 := Tryd.sizeOf4
  v4 := Tryd.zeroValue4
  t5 := Tryd.underlying5
  a5 := Tryd.isAgg5
  z5 := Tryd.sizeOf5
  v5 := Tryd.zeroValue5
  t9 := Tryd.underlying9
  a9 := Tryd.isAgg9
  z9 := Tryd.sizeOf9
  v9 := Tryd.zeroValue9
  t46 := Tryd.underlying138
  a46 := Tryd.isAgg138
  z46 := Tryd.sizeOf138
  v46 := Tryd.zeroValue138
  t51 := Tryd.underlying144
  a51 := Tryd.isAgg144
  z51 := Tryd.sizeOf144
  v51 := Tryd.zeroValue144
  t146 := Tryd.underlying145
  a146 := Tryd.isAgg145
  z146 := Tryd.sizeOf145
  v146 := Tryd.zeroValue145
  g1 := by kernel_rfl }
open Go.RowKit Go.Lib in
theorem Tryd.stringslite_Index_one (s : ByteArray) (c : UInt8) (w : World) :
    Calls Tryd.prog 87 #[.string s, .string ⟨#[c]⟩] w fun e w' => e = .returned (.int .i64 (Lib.indexByte s.data.toList c)) ∧ w' = w := Any.stringslite_Index_one Tryd.lays219 s c w
def Tryd.lays143_ren : Go.Shelf.Ren := ⟨fun | 143 => 64 | 219 => 87 | 217 => 97 | 225 => 98 | 224 => 99 | 267 => 100 | 266 => 105 | 314 => 106 | n => n, fun | 9 => 9 | 3 => 3 | 4 => 4 | 5 => 5 | 46 => 138 | 146 => 145 | 51 => 144 | n => n, fun | 1 => 0 | n => n⟩
theorem Tryd.lays143 : Go.Proofs.Lays.n143 Tryd.prog Tryd.lays143_ren := {
  mixed := by kernel_rfl
  f143 := Tryd.func64.trans (congrArg some (by kernel_rfl))
  f217 := Tryd.func97.trans (congrArg some (by kernel_rfl))
  f219 := Tryd.func87.trans (congrArg some (by kernel_rfl))
  f224 := Tryd.func99.trans (congrArg some (by kernel_rfl))
  f225 := Tryd.func98.trans (congrArg some (by kernel_rfl))
  f266 := Tryd.func105.trans (congrArg some (by kernel_rfl))
  f267 := Tryd.func100.trans (congrArg some (by kernel_rfl))
  f314 := Tryd.func106.trans (congrArg some (by kernel_rfl))
  t3 := Tryd.underlying3
  a3 := Tryd.isAgg3
  z3 := Tryd.sizeOf3
  v3 := Tryd.zeroValue3
  t4 := Tryd.underlying4
  a4 := Tryd.isAgg4
  z4 := Tryd.sizeOf4
  v4 := Tryd.zeroValue4
  t5 := Tryd.underlying5
  a5 := Tryd.isAgg5
  z5 := Tryd.sizeOf5
  v5 := Tryd.zeroValue5
  t9 := Tryd.underlying9
  a9 := Tryd.isAgg9
  z9 := Tryd.sizeOf9
  v9 := Tryd.zeroValue9
  t46 := Tryd.underlying138
  a46 := Tryd.isAgg138
  z46 := Tryd.sizeOf138
  v46 := Tryd.zeroValue138
  t51 := Tryd.underlying144
  a51 := Tryd.isAgg144
  z51 := Tryd.sizeOf144
  v51 := Tryd.zeroValue144
  t146 := Tryd.underlying145
  a146 := Tryd.isAgg145
  z146 := Tryd.sizeOf145
  v146 := Tryd.zeroValue145
  g1 := by kernel_rfl }
open Go.RowKit Go.Lib in
theorem Tryd.strings_Index_one (s : ByteArray) (c : UInt8) (w : World) :
    Calls Tryd.prog 64 #[.string s, .string ⟨#[c]⟩] w fun e w' => e = .returned (.int .i64 (Lib.indexByte s.data.toList c)) ∧ w' = w := Any.strings_Index_one Tryd.lays143 s c w
def Tryd.laysGw15_ren : Go.Shelf.Ren := ⟨fun | 15 => 41 | 20 => 65 | n => n, fun | 9 => 9 | 23 => 68 | 3 => 3 | 4 => 4 | 0 => 0 | 21 => 21 | n => n, fun | n => n⟩
theorem Tryd.laysGw15 : Go.Proofs.LaysGw.n15 Tryd.prog Tryd.laysGw15_ren := {
  mixed := by kernel_rfl
  f15 := Tryd.func41.trans (congrArg some (by kernel_rfl))
  f20 := Tryd.func65.trans (congrArg some (by kernel_rfl))
  t0 := Tryd.underlying0
  a0 := Tryd.isAgg0
  z0 := Tryd.sizeOf0
  v0 := Tryd.zeroValue0
  i0 := by kernel_rfl
  t3 := Tryd.underlying3
  a3 := Tryd.isAgg3
  z3 := Tryd.sizeOf3
  v3 := Tryd.zeroValue3
  i3 := by kernel_rfl
  t4 := Tryd.underlying4
  a4 := Tryd.isAgg4
  z4 := Tryd.sizeOf4
  v4 := Tryd.zeroValue4
  i4 := by kernel_rfl
  t9 := Tryd.underlying9
  a9 := Tryd.isAgg9
  z9 := Tryd.sizeOf9
  v9 := Tryd.zeroValue9
  i9 := by kernel_rfl
  t21 := Tryd.underlying21
  a21 := Tryd.isAgg21
  z21 := Tryd.sizeOf21
  v21 := Tryd.zeroValue21
  i21 := by kernel_rfl
  t23 := Tryd.underlying68
  a23 := Tryd.isAgg68
  z23 := Tryd.sizeOf68
  v23 := Tryd.zeroValue68
  i23 := by kernel_rfl }
def Tryd.laysGw17_ren : Go.Shelf.Ren := ⟨fun | 17 => 24 | 15 => 41 | 20 => 65 | n => n, fun | 9 => 9 | 23 => 68 | 4 => 4 | 3 => 3 | 0 => 0 | 21 => 21 | n => n, fun | n => n⟩
theorem Tryd.laysGw17 : Go.Proofs.LaysGw.n17 Tryd.prog Tryd.laysGw17_ren := {
  mixed := by kernel_rfl
  f15 := Tryd.func41.trans (congrArg some (by kernel_rfl))
  f17 := Tryd.func24.trans (congrArg some (by kernel_rfl))
  f20 := Tryd.func65.trans (congrArg some (by kernel_rfl))
  t0 := Tryd.underlying0
  a0 := Tryd.isAgg0
  z0 := Tryd.sizeOf0
  v0 := Tryd.zeroValue0
  i0 := by kernel_rfl
  t3 := Tryd.underlying3
  a3 := Tryd.isAgg3
  z3 := Tryd.sizeOf3
  v3 := Tryd.zeroValue3
  i3 := by kernel_rfl
  t4 := Tryd.underlying4
  a4 := Tryd.isAgg4
  z4 := Tryd.sizeOf4
  v4 := Tryd.zeroValue4
  i4 := by kernel_rfl
  t9 := Tryd.underlying9
  a9 := Tryd.isAgg9
  z9 := Tryd.sizeOf9
  v9 := Tryd.zeroValue9
  i9 := by kernel_rfl
  t21 := Tryd.underlying21
  a21 := Tryd.isAgg21
  z21 := Tryd.sizeOf21
  v21 := Tryd.zeroValue21
  i21 := by kernel_rfl
  t23 := Tryd.underlying68
  a23 := Tryd.isAgg68
  z23 := Tryd.sizeOf68
  v23 := Tryd.zeroValue68
  i23 := by kernel_rfl }
def Tryd.lays206_ren : Go.Shelf.Ren := ⟨fun | 206 => 91 | n => n, fun | 9 => 9 | 4 => 4 | 3 => 3 | n => n, fun | n => n⟩
theorem Tryd.lays206 : Go.Proofs.Lays.n206 Tryd.prog Tryd.lays206_ren := {
  mixed := by kernel_rfl
  f206 := Tryd.func91.trans (congrArg some (by kernel_rfl))
  t3 := Tryd.underlying3
  a3 := Tryd.isAgg3
  z3 := Tryd.sizeOf3
  v3 := Tryd.zeroValue3
  t4 := Tryd.underlying4
  a4 := Tryd.isAgg4
  z4 := Tryd.sizeOf4
  v4 := Tryd.zeroValue4
  t9 := Tryd.underlying9
  a9 := Tryd.isAgg9
  z9 := Tryd.sizeOf9
  v9 := Tryd.zeroValue9 }
open Go.RowKit Go.Lib in
theorem Tryd.stringslite_HasPrefix (s p : ByteArray) (w : World) :
    Calls Tryd.prog 91 #[.string s, .string p] w fun e w' => e = .returned (.bool (Lib.hasPrefix s.data.toList p.data.toList)) ∧ w' = w := Any.stringslite_HasPrefix Tryd.lays206 s p w
def Tryd.lays99_ren : Go.Shelf.Ren := ⟨fun | 99 => 75 | 206 => 91 | n => n, fun | 9 => 9 | 4 => 4 | 3 => 3 | n => n, fun | n => n⟩
theorem Tryd.lays99 : Go.Proofs.Lays.n99 Tryd.prog Tryd.lays99_ren := {
  mixed := by kernel_rfl
  f99 := Tryd.func75.trans (congrArg some (by kernel_rfl))
  f206 := Tryd.func91.trans (congrArg some (by kernel_rfl))
  t3 := Tryd.underlying3
  a3 := Tryd.isAgg3
  z3 := Tryd.sizeOf3
  v3 := Tryd.zeroValue3
  t4 := Tryd.underlying4
  a4 := Tryd.isAgg4
  z4 := Tryd.sizeOf4
  v4 := Tryd.zeroValue4
  t9 := Tryd.underlying9
  a9 := Tryd.isAgg9
  z9 := Tryd.sizeOf9
  v9 := Tryd.zeroValue9 }
open Go.RowKit Go.Lib in
theorem Tryd.strings_HasPrefix (s p : ByteArray) (w : World) :
    Calls Tryd.prog 75 #[.string s, .string p] w fun e w' => e = .returned (.bool (Lib.hasPrefix s.data.toList p.data.toList)) ∧ w' = w := Any.strings_HasPrefix Tryd.lays99 s p w
def Tryd.lays146_ren : Go.Shelf.Ren := ⟨fun | 146 => 23 | 221 => 40 | 268 => 62 | 138 => 63 | 143 => 64 | 195 => 85 | 197 => 67 | 218 => 86 | 219 => 87 | 260 => 88 | 217 => 97 | 225 => 98 | 224 => 99 | 267 => 100 | 266 => 105 | 314 => 106 | n => n, fun | 9 => 9 | 31 => 23 | 3 => 3 | 4 => 4 | 0 => 0 | 105 => 119 | 21 => 21 | 5 => 5 | 46 => 138 | 119 => 139 | 139 => 142 | 138 => 141 | 146 => 145 | 51 => 144 | n => n, fun | 1 => 0 | 3 => 1 | 4 => 2 | n => n⟩
theorem Tryd.lays146 : Go.Proofs.Lays.n146 Tryd.prog Tryd.lays146_ren := {
  mixed := by kernel_rfl
  f138 := Tryd.func63.trans (congrArg some (by kernel_rfl))
  f143 := Tryd.func64.trans (congrArg some (by kernel_rfl))
  f146 := Tryd.func23.trans (congrArg some (by kernel_rfl))
  f195 := Tryd.func85.trans (congrArg some (by kernel_rfl))
  f197 := Tryd.func67.trans (congrArg some (by kernel_rfl))
  f217 := Tryd.func97.trans (congrArg some (by kernel_rfl))
  f218 := Tryd.func86.trans (congrArg some (by kernel_rfl))
  f219 := Tryd.func87.trans (congrArg some (by kernel_rfl))
  f221 := Tryd.func40.trans (congrArg some (by kernel_rfl))
  f224 := Tryd.func99.trans (congrArg some (by kernel_rfl))
  f225 := Tryd.func98.trans (congrArg some (by kernel_rfl))
  f260 := Tryd.func88.trans (congrArg some (by kernel_rfl))
  f266 := Tryd.func105.trans (congrArg some (by kernel_rfl))
  f267 := Tryd.func100.trans (congrArg some (by kernel_rfl))
  f268 := Tryd.func62.trans (congrArg some (by kernel_rfl))
  f314 := Tryd.func106.trans (congrArg some (by kernel_rfl))
  t0 := Tryd.underlying0
  a0 := Tryd.isAgg0
  z0 := Tryd.sizeOf0
  v0 := Tryd.zeroValue0
  t3 := Tryd.underlying3
  a3 := Tryd.isAgg3
  z3 := Tryd.sizeOf3
  v3 := Tryd.zeroValue3
  t4 := Tryd.underlying4
  a4 := Tryd.isAgg4
  z4 := Tryd.sizeOf4
  v4 := Tryd.zeroValue4
  t5 := Tryd.underlying5
  a5 := Tryd.isAgg5
  z5 := Tryd.sizeOf5
  v5 := Tryd.zeroValue5
  t9 := Tryd.underlying9
  a9 := Tryd.isAgg9
  z9 := Tryd.sizeOf9
  v9 := Tryd.zeroValue9
  t21 := Tryd.underlying21
  a21 := Tryd.isAgg21
  z21 := Tryd.sizeOf21
  v21 := Tryd.zeroValue21
  t31 := Tryd.underlying23
  a31 := Tryd.isAgg23
  z31 := Tryd.sizeOf23
  v31 := Tryd.zeroValue23
  t46 := Tryd.underlying138
  a46 := Tryd.isAgg138
  z46 := Tryd.sizeOf138
  v46 := Tryd.zeroValue138
  t51 := Tryd.underlying144
  a51 := Tryd.isAgg144
  z51 := Tryd.sizeOf144
  v51 := Tryd.zeroValue144
  t105 := Tryd.underlying119
  a105 := Tryd.isAgg119
  z105 := Tryd.sizeOf119
  v105 := Tryd.zeroValue119
  t119 := Tryd.underlying139
  a119 := Tryd.isAgg139
  z119 := Tryd.sizeOf139
  t138 := Tryd.underlying141
  a138 := Tryd.isAgg141
  z138 := Tryd.sizeOf141
  v138 := Tryd.zeroValue141
  t139 := Tryd.underlying142
  a139 := Tryd.isAgg142
  z139 := Tryd.sizeOf142
  v139 := Tryd.zeroValue142
  t146 := Tryd.underlying145
  a146 := Tryd.isAgg145
  z146 := Tryd.sizeOf145
  v146 := Tryd.zeroValue145
  g1 := by kernel_rfl
  g3 := by kernel_rfl
  g4 := by kernel_rfl }
open Go.RowKit Go.Lib in
theorem Tryd.strings_Split (s sep : ByteArray) (m : Int) (w : World) (hs : s.size < 4294967281) (hm : w.cell? ⟨0, 0, none⟩ = some (.int .i64 m)) (h1 : 1 ≤ sep.size) :
    Calls Tryd.prog 23 #[.string s, .string sep] w fun e w' =>
      e = .returned (.slice (some ⟨w.heap.size, 0, none⟩) (Lib.countB s sep + 1) (Lib.countB s sep + 1)) ∧ w' = w.alloc (.cells ((Lib.splitB sep 0 (Lib.countB s sep) s).map Value.string).toArray 9) := Any.strings_Split Tryd.lays146 (by kernel_rfl) s sep m w hs hm h1
def Tryd.lays151_ren : Go.Shelf.Ren := ⟨fun | 151 => 68 | 152 => 89 | 137 => 101 | 119 => 102 | 224 => 99 | 225 => 98 | 217 => 97 | 266 => 105 | n => n, fun | 9 => 9 | 21 => 21 | 4 => 4 | 3 => 3 | 5 => 5 | 0 => 0 | 46 => 138 | n => n, fun | n => n⟩
theorem Tryd.lays151 : Go.Proofs.Lays.n151 Tryd.prog Tryd.lays151_ren := {
  mixed := by kernel_rfl
  f119 := Tryd.func102.trans (congrArg some (by kernel_rfl))
  f137 := Tryd.func101.trans (congrArg some (by kernel_rfl))
  f151 := Tryd.func68.trans (congrArg some (by kernel_rfl))
  f152 := Tryd.func89.trans (congrArg some (by kernel_rfl))
  f217 := Tryd.func97.trans (congrArg some (by kernel_rfl))
  f224 := Tryd.func99.trans (congrArg some (by kernel_rfl))
  f225 := Tryd.func98.trans (congrArg some (by kernel_rfl))
  f266 := Tryd.func105.trans (congrArg some (by kernel_rfl))
  t0 := Tryd.underlying0
  a0 := Tryd.isAgg0
  z0 := Tryd.sizeOf0
  v0 := Tryd.zeroValue0
  t3 := Tryd.underlying3
  a3 := Tryd.isAgg3
  z3 := Tryd.sizeOf3
  v3 := Tryd.zeroValue3
  t4 := Tryd.underlying4
  a4 := Tryd.isAgg4
  z4 := Tryd.sizeOf4
  v4 := Tryd.zeroValue4
  t5 := Tryd.underlying5
  a5 := Tryd.isAgg5
  z5 := Tryd.sizeOf5
  v5 := Tryd.zeroValue5
  t9 := Tryd.underlying9
  a9 := Tryd.isAgg9
  z9 := Tryd.sizeOf9
  v9 := Tryd.zeroValue9
  t21 := Tryd.underlying21
  a21 := Tryd.isAgg21
  z21 := Tryd.sizeOf21
  v21 := Tryd.zeroValue21
  t46 := Tryd.underlying138
  a46 := Tryd.isAgg138
  z46 := Tryd.sizeOf138
  v46 := Tryd.zeroValue138 }
open Go.RowKit Go.Lib in
theorem Tryd.strings_ContainsRune_ascii (s : ByteArray) (r : Int) (w : World) (h0 : 0 ≤ r) (h1 : r < 128) :
    Calls Tryd.prog 68 #[.string s, .int .i32 r] w fun e w' => e = .returned (.bool (decide (0 ≤ Lib.indexByte s.data.toList r.toNat.toUInt8))) ∧ w' = w := Any.strings_ContainsRune_ascii Tryd.lays151 s r w h0 h1
open Go.RowKit Go.Lib in
theorem Tryd.strings_IndexFunc_grows (g : Nat) (lb : Array Value) (eg : ∀ args w, (callFunc g args).run Tryd.prog w = .ok (.enter g args) w) (p : Nat → Bool) (s : ByteArray) (w : World) (hp : PredGrows Tryd.prog g lb p w) :
    Calls Tryd.prog 41 #[.string s, .func (.func g) #[] lb] w fun e w' => e = .returned (.int .i64 (Lib.idxFunc p true s)) ∧ Below w.heap.size w w' := Any.strings_IndexFunc_grows Tryd.laysGw15 g lb eg p s w hp
open Go.RowKit Go.Lib in
theorem Tryd.strings_ContainsFunc_grows (g : Nat) (lb : Array Value) (eg : ∀ args w, (callFunc g args).run Tryd.prog w = .ok (.enter g args) w) (p : Nat → Bool) (s : ByteArray) (w : World) (hp : PredGrows Tryd.prog g lb p w) :
    Calls Tryd.prog 24 #[.string s, .func (.func g) #[] lb] w fun e w' => e = .returned (.bool (decide (0 ≤ Lib.idxFunc p true s))) ∧ Below w.heap.size w w' := Any.strings_ContainsFunc_grows Tryd.laysGw17 g lb eg p s w hp
def Tryd.lays109_ren : Go.Shelf.Ren := ⟨fun | 109 => 76 | n => n, fun | 31 => 23 | 9 => 9 | 3 => 3 | 0 => 0 | 4 => 4 | n => n, fun | n => n⟩
theorem Tryd.lays109 : Go.Proofs.Lays.n109 Tryd.prog Tryd.lays109_ren := {
  mixed := by kernel_rfl
  f109 := Tryd.func76.trans (congrArg some (by kernel_rfl))
  t0 := Tryd.underlying0
  a0 := Tryd.isAgg0
  z0 := Tryd.sizeOf0
  v0 := Tryd.zeroValue0
  t3 := Tryd.underlying3
  a3 := Tryd.isAgg3
  z3 := Tryd.sizeOf3
  v3 := Tryd.zeroValue3
  t4 := Tryd.underlying4
  a4 := Tryd.isAgg4
  z4 := Tryd.sizeOf4
  v4 := Tryd.zeroValue4
  t9 := Tryd.underlying9
  a9 := Tryd.isAgg9
  z9 := Tryd.sizeOf9
  v9 := Tryd.zeroValue9
  t31 := Tryd.underlying23
  a31 := Tryd.isAgg23
  z31 := Tryd.sizeOf23
  v31 := Tryd.zeroValue23 }
open Go.Lib in
theorem Tryd.slices_Index_string (b off n c : Nat) (zs : List ByteArray) (x : ByteArray) (w : World) (hz : n ≤ zs.length) (hbig : n ≤ 9223372036854775807) (hc : ∀ j, j < zs.length → w.cell? ⟨b, off + j, none⟩ = some (.string (zs.getD j ByteArray.empty))) :
    Calls Tryd.prog 76 #[.slice (some ⟨b, off, none⟩) n c, .string x] w fun e w' => e = .returned (.int .i64 (Lib.idxOfS (zs.take n) x)) ∧ w' = w := Any.slices_Index_string Tryd.lays109 b off n c zs x w hz hbig hc
open Go.Lib in
theorem Tryd.slices_Index_string_empty (a : Option Addr) (c : Nat) (x : ByteArray) (w : World) :
    Calls Tryd.prog 76 #[.slice a 0 c, .string x] w fun e w' => e = .returned (.int .i64 (Lib.idxOfS [] x)) ∧ w' = w := Any.slices_Index_string_empty Tryd.lays109 a c x w
def Tryd.lays110_ren : Go.Shelf.Ren := ⟨fun | 110 => 53 | 109 => 76 | n => n, fun | 31 => 23 | 9 => 9 | 4 => 4 | 3 => 3 | 0 => 0 | n => n, fun | n => n⟩
theorem Tryd.lays110 : Go.Proofs.Lays.n110 Tryd.prog Tryd.lays110_ren := {
  mixed := by kernel_rfl
  f109 := Tryd.func76.trans (congrArg some (by kernel_rfl))
  f110 := Tryd.func53.trans (congrArg some (by kernel_rfl))
  t0 := Tryd.underlying0
  a0 := Tryd.isAgg0
  z0 := Tryd.sizeOf0
  v0 := Tryd.zeroValue0
  t3 := Tryd.underlying3
  a3 := Tryd.isAgg3
  z3 := Tryd.sizeOf3
  v3 := Tryd.zeroValue3
  t4 := Tryd.underlying4
  a4 := Tryd.isAgg4
  z4 := Tryd.sizeOf4
  v4 := Tryd.zeroValue4
  t9 := Tryd.underlying9
  a9 := Tryd.isAgg9
  z9 := Tryd.sizeOf9
  v9 := Tryd.zeroValue9
  t31 := Tryd.underlying23
  a31 := Tryd.isAgg23
  z31 := Tryd.sizeOf23
  v31 := Tryd.zeroValue23 }
open Go.Lib in
theorem Tryd.slices_Contains_string (b off n c : Nat) (zs : List ByteArray) (x : ByteArray) (w : World) (hz : n ≤ zs.length) (hbig : n ≤ 9223372036854775807) (hc : ∀ j, j < zs.length → w.cell? ⟨b, off + j, none⟩ = some (.string (zs.getD j ByteArray.empty))) :
    Calls Tryd.prog 53 #[.slice (some ⟨b, off, none⟩) n c, .string x] w fun e w' => e = .returned (.bool (Lib.containsS (zs.take n) x)) ∧ w' = w := Any.slices_Contains_string Tryd.lays110 b off n c zs x w hz hbig hc
end Go.Proofs
end
section
set_option linter.unusedSimpArgs false
set_option linter.unusedVariables false
namespace Go.Proofs.YteniakfclkdlfaaDoor.Idx
open Go.RowKit Go.Lib Go.Proofs.YteniakfclkdlfaaDoor.U
theorem decode_at (s : ByteArray) (pos : Nat) (h : pos < s.size) : ((s[pos]'h).toNat < 128 → Utf8.decode s pos = ((s[pos]'h).toNat, 1)) ∧ (128 ≤ (s[pos]'h).toNat → 128 ≤ (Utf8.decode s pos).1) := by
  have hg : (s.get! pos).toNat = (s[pos]'h).toNat := by
    have : s.get! pos = s[pos]'h := by
      show s.data[pos]! = s.data[pos]'h
      rw [getElem!_pos s.data pos h]
    rw [this]
  have hlt := (s[pos]'h).toNat_lt
  constructor
  · intro h1
    unfold Utf8.decode
    simp only [Nat.add_zero, hg]
    rw [if_pos h1]
  · intro h1
    unfold Utf8.decode
    simp only [Nat.add_zero, hg]
    rw [if_neg (by omega)]
    split
    · split
      · assumption
      · show 128 ≤ Utf8.runeError; decide
    · split
      · split
        · rename_i h2; simp only [Bool.and_eq_true, decide_eq_true_eq] at h2; omega
        · show 128 ≤ Utf8.runeError; decide
      · split
        · split
          · rename_i h2; simp only [Bool.and_eq_true, decide_eq_true_eq] at h2; omega
          · show 128 ≤ Utf8.runeError; decide
        · show 128 ≤ Utf8.runeError; decide
theorem idx_from (q : Nat → Bool) (hq : ∀ c, 128 ≤ c → q c = false) (r : List UInt8) : ∀ (a : List UInt8) (f : Nat), r.length ≤ f →
    Lib.idxFuncFrom (fun c => !q c) true (B (a ++ r)) f a.length = if r.all (fun b => q b.toNat) then -1 else ((a.length + (r.takeWhile (fun b => q b.toNat)).length : Nat) : Int) := by
  induction r with
  | nil =>
    intro a f hf
    cases f with
    | zero => rfl
    | succ f =>
      unfold Lib.idxFuncFrom
      rw [if_neg (by rw [size_B]; simp)]; rfl
  | cons b r ih =>
    intro a f hf
    cases f with
    | zero => simp at hf
    | succ f =>
      have hp : a.length < (B (a ++ b :: r)).size := by rw [size_B]; simp
      have hb : (B (a ++ b :: r))[a.length]'hp = b := by
        show (a ++ b :: r).toArray[a.length]'_ = b
        simp
      have hd := decode_at (B (a ++ b :: r)) a.length hp
      rw [hb] at hd
      unfold Lib.idxFuncFrom
      rw [if_pos hp]
      by_cases hqb : q b.toNat = true
      · have hlt : b.toNat < 128 := by
          refine Nat.lt_of_not_le fun h2 => ?_
          rw [hq _ h2] at hqb; cases hqb
        rw [hd.1 hlt]
        have := ih (a ++ [b]) f (by simpa using hf)
        rw [List.length_append, List.length_singleton, List.append_assoc] at this
        simp only [hqb, Bool.not_true, Bool.false_eq_true, if_false, List.all_cons, Bool.true_and, List.takeWhile_cons, if_true, List.length_cons, beq_iff_eq]
        rw [show [b] ++ r = b :: r from rfl] at this
        rw [this]
        split
        · rfl
        · congr 1; omega
      · have hqb' : q b.toNat = false := by simpa using hqb
        have hqd : q (Utf8.decode (B (a ++ b :: r)) a.length).1 = false := by
          by_cases hlt : b.toNat < 128
          · rw [hd.1 hlt]; exact hqb'
          · exact hq _ (hd.2 (by omega))
        simp only [hqd, hqb', Bool.not_false, if_true, List.all_cons, Bool.false_and, Bool.false_eq_true, if_false, List.takeWhile_cons, List.length_nil, Nat.add_zero, BEq.rfl]
theorem idx_func (q : Nat → Bool) (hq : ∀ c, 128 ≤ c → q c = false) (l : List UInt8) :
    Lib.idxFunc (fun c => !q c) true (B l) = if l.all (fun b => q b.toNat) then -1 else ((l.takeWhile (fun b => q b.toNat)).length : Int) := by
  have := idx_from q hq l [] (B l).size (by rw [size_B]; exact Nat.le_refl _)
  simp only [List.nil_append, List.length_nil, Nat.zero_add] at this
  exact this
end Go.Proofs.YteniakfclkdlfaaDoor.Idx
end
section
set_option linter.unusedSimpArgs false
set_option linter.unusedVariables false
namespace Go.Proofs.YteniakfclkdlfaaDoor.Sc
open Go.RowKit Go.Lib Go.Shelf Go.Proofs.YteniakfclkdlfaaDoorW.PrintWords Go.Proofs.YteniakfclkdlfaaDoor.U Go.Proofs.YteniakfclkdlfaaDoor.Idx
def shortR (c : Nat) : Bool := (decide (97 ≤ c) && decide (c ≤ 122)) || (decide (65 ≤ c) && decide (c ≤ 90)) || (decide (48 ≤ c) && decide (c ≤ 57)) || c == 95 || c == 45
theorem shortR_beyond (c : Nat) (h : 123 ≤ c) : shortR c = false := by
  have h2 : ¬ c ≤ 122 := by omega
  have h3 : ¬ c ≤ 90 := by omega
  have h4 : ¬ c ≤ 57 := by omega
  have h5 : ¬ c = 95 := by omega
  have h6 : ¬ c = 45 := by omega
  simp [shortR, h2, h3, h4, h5, h6]
set_option maxRecDepth 100000 in
set_option maxHeartbeats 4000000 in
theorem short_any (c : Nat) (w : World) :
    Calls Tryd.prog 74 #[.int .i32 (c : Int)] w fun e w' => e = .returned (.bool (shortR c)) ∧ w = w' := by
  have fin : ∀ b, shortR c = b → Calls Tryd.prog 74 #[.int .i32 (c : Int)] w (fun e w' => e = .returned (.bool b) ∧ w = w') → Calls Tryd.prog 74 #[.int .i32 (c : Int)] w fun e w' => e = .returned (.bool (shortR c)) ∧ w = w' := fun b hb h => by rw [hb]; exact h
  rcases (show ((97 ≤ c ∧ c ≤ 122) ∨ (65 ≤ c ∧ c ≤ 90) ∨ (48 ≤ c ∧ c ≤ 57)) ∨ c = 95 ∨ c = 45 ∨ ((c < 48 ∧ c ≠ 45) ∨ (57 < c ∧ c < 65) ∨ (90 < c ∧ c < 97 ∧ c ≠ 95) ∨ 122 < c) from by omega) with h | rfl | rfl | h
  · have e : shortR c = true := by
      unfold shortR
      rcases h with ⟨a, b⟩ | ⟨a, b⟩ | ⟨a, b⟩ <;> simp [a, b]
    refine fin true e ?_
    rcases h with ⟨a, b⟩ | ⟨a, b⟩ | ⟨a, b⟩
    all_goals
      go_enter Tryd.func74, Tryd.ntmps74
      go_wp2_with fail
      go_ret
      exact ⟨rfl, rfl⟩
  · refine fin true rfl ?_
    go_enter Tryd.func74, Tryd.ntmps74
    go_wp2_with fail
    go_ret
    exact ⟨rfl, rfl⟩
  · refine fin true rfl ?_
    go_enter Tryd.func74, Tryd.ntmps74
    go_wp2_with fail
    go_ret
    exact ⟨rfl, rfl⟩
  · have n95 : c ≠ 95 := by omega
    have n45 : c ≠ 45 := by omega
    have e : shortR c = false := by
      unfold shortR
      have h1 : ¬ (97 ≤ c ∧ c ≤ 122) := by omega
      have h2 : ¬ (65 ≤ c ∧ c ≤ 90) := by omega
      have h3 : ¬ (48 ≤ c ∧ c ≤ 57) := by omega
      rw [← Bool.decide_and, ← Bool.decide_and, ← Bool.decide_and, decide_eq_false h1, decide_eq_false h2, decide_eq_false h3]
      simp [n95, n45]
    refine fin false e ?_
    have b95 : ((c : Int) == 95) = false := by rw [beq_eq_false_iff_ne]; omega
    have b45 : ((c : Int) == 45) = false := by rw [beq_eq_false_iff_ne]; omega
    rcases h with ⟨a, _⟩ | ⟨a, b⟩ | ⟨a, b, _⟩ | a
    · have d97 : decide (97 ≤ (c : Int)) = false := by rw [decide_eq_false_iff_not]; omega
      have d65 : decide (65 ≤ (c : Int)) = false := by rw [decide_eq_false_iff_not]; omega
      have d48 : decide (48 ≤ (c : Int)) = false := by rw [decide_eq_false_iff_not]; omega
      go_enter Tryd.func74, Tryd.ntmps74
      go_wp2_with fail
      go_ret
      exact ⟨rfl, rfl⟩
    · have d97 : decide (97 ≤ (c : Int)) = false := by rw [decide_eq_false_iff_not]; omega
      have d65 : decide (65 ≤ (c : Int)) = false := by rw [decide_eq_false_iff_not]; omega
      have d48 : decide (48 ≤ (c : Int)) = true := by rw [decide_eq_true_iff]; omega
      have d57 : decide ((c : Int) ≤ 57) = false := by rw [decide_eq_false_iff_not]; omega
      go_enter Tryd.func74, Tryd.ntmps74
      go_wp2_with fail
      go_ret
      exact ⟨rfl, rfl⟩
    · have d97 : decide (97 ≤ (c : Int)) = false := by rw [decide_eq_false_iff_not]; omega
      have d65 : decide (65 ≤ (c : Int)) = true := by rw [decide_eq_true_iff]; omega
      have d90 : decide ((c : Int) ≤ 90) = false := by rw [decide_eq_false_iff_not]; omega
      have d48 : decide (48 ≤ (c : Int)) = true := by rw [decide_eq_true_iff]; omega
      have d57 : decide ((c : Int) ≤ 57) = false := by rw [decide_eq_false_iff_not]; omega
      go_enter Tryd.func74, Tryd.ntmps74
      go_wp2_with fail
      go_ret
      exact ⟨rfl, rfl⟩
    · have d97 : decide (97 ≤ (c : Int)) = true := by rw [decide_eq_true_iff]; omega
      have d122 : decide ((c : Int) ≤ 122) = false := by rw [decide_eq_false_iff_not]; omega
      have d65 : decide (65 ≤ (c : Int)) = true := by rw [decide_eq_true_iff]; omega
      have d90 : decide ((c : Int) ≤ 90) = false := by rw [decide_eq_false_iff_not]; omega
      have d48 : decide (48 ≤ (c : Int)) = true := by rw [decide_eq_true_iff]; omega
      have d57 : decide ((c : Int) ≤ 57) = false := by rw [decide_eq_false_iff_not]; omega
      go_enter Tryd.func74, Tryd.ntmps74
      go_wp2_with fail
      go_ret
      exact ⟨rfl, rfl⟩
def nameR (c : Nat) : Bool := shortR c || c == 46
theorem nameR_beyond (c : Nat) (h : 128 ≤ c) : nameR c = false := by
  rw [nameR, shortR_beyond c (by omega)]
  simp; omega
theorem shortR_beyond' (c : Nat) (h : 128 ≤ c) : shortR c = false := shortR_beyond c (by omega)
set_option maxRecDepth 100000 in
set_option maxHeartbeats 2000000 in
theorem notname_grows (w : World) : PredGrows Tryd.prog 73 #[] (fun c => !nameR c) w := by
  intro W x hx hb
  cases hs : shortR x with
  | true =>
    have e : (!nameR x) = false := by simp [nameR, hs]
    show Calls Tryd.prog _ _ W fun e w' => e = .returned (.bool (!nameR x)) ∧ Below W.heap.size W w'
    rw [e]
    go_enter Tryd.func73, Tryd.ntmps73
    go_wp2_with fail
    refine (short_any x _).mono ?_
    rw [hs]
    rintro e w' ⟨rfl, rfl⟩
    go_wp2_with fail
    go_ret
    exact ⟨rfl, Below.refl _ _⟩
  | false =>
    cases h46 : (x == 46) with
    | true =>
      have e : (!nameR x) = false := by simp [nameR, hs, h46]
      show Calls Tryd.prog _ _ W fun e w' => e = .returned (.bool (!nameR x)) ∧ Below W.heap.size W w'
      have h' : ((x : Int) != 46) = false := by
        have : x = 46 := by simpa using h46
        subst this; rfl
      rw [e]
      go_enter Tryd.func73, Tryd.ntmps73
      go_wp2_with fail
      refine (short_any x _).mono ?_
      rw [hs]
      rintro e w' ⟨rfl, rfl⟩
      go_wp2_with fail
      go_ret
      exact ⟨rfl, Below.refl _ _⟩
    | false =>
      have e : (!nameR x) = true := by simp [nameR, hs, h46]
      show Calls Tryd.prog _ _ W fun e w' => e = .returned (.bool (!nameR x)) ∧ Below W.heap.size W w'
      have h' : ((x : Int) != 46) = true := by
        have : x ≠ 46 := by simpa using h46
        rw [bne_iff_ne]; omega
      rw [e]
      go_enter Tryd.func73, Tryd.ntmps73
      go_wp2_with fail
      refine (short_any x _).mono ?_
      rw [hs]
      rintro e w' ⟨rfl, rfl⟩
      go_wp2_with fail
      go_ret
      exact ⟨rfl, Below.refl _ _⟩
set_option maxRecDepth 100000 in
set_option maxHeartbeats 2000000 in
theorem notshort_grows (w : World) : PredGrows Tryd.prog 93 #[] (fun c => !shortR c) w := by
  intro W x hx hb
  go_enter Tryd.func93, Tryd.ntmps93
  go_wp2_with fail
  refine (short_any x _).mono ?_
  rintro e w' ⟨rfl, rfl⟩
  go_wp2_with fail
  go_ret
  exact ⟨rfl, Below.refl _ _⟩
def shortB (b : UInt8) : Bool := shortR b.toNat
def nameB (b : UInt8) : Bool := nameR b.toNat
def nameL (l : List UInt8) : Bool := !l.isEmpty && l.all nameB
set_option maxRecDepth 100000 in
set_option maxHeartbeats 2000000 in
theorem Name_any (l : List UInt8) (w : World) :
    Calls Tryd.prog 49 #[.string (B l)] w fun e w' => e = .returned (.bool (nameL l)) ∧ Below w.heap.size w w' := by
  cases l with
  | nil =>
    go_enter Tryd.func49, Tryd.ntmps49
    go_wp2_with fail
    go_ret
    exact ⟨rfl, Below.refl _ _⟩
  | cons b l =>
    have hne : ((B (b :: l)).toList != []) = true := by rw [toList_B]; rfl
    have hne2 : (B (b :: l)).toList.isEmpty = false := by rw [toList_B]; rfl
    have hC := Lib.hid (Tryd.strings_ContainsFunc_grows 73 #[] (fun args w => by kernel_rfl) (fun c => !nameR c) (B (b :: l)) w (notname_grows w))
    have hi := idx_func nameR nameR_beyond (b :: l)
    have hd : decide ((0 : Int) ≤ Lib.idxFunc (fun c => !nameR c) true (B (b :: l))) = !nameL (b :: l) := by
      rw [hi, nameL]
      show _ = !(true && List.all (b :: l) (fun b => nameR b.toNat))
      cases (b :: l).all (fun b => nameR b.toNat) with
      | true => rfl
      | false => simp <;> omega
    rw [hd] at hC
    clear hi hd
    go_enter Tryd.func49, Tryd.ntmps49
    go_wp2_with fail
    refine hC.out.mono ?_
    rintro e w' ⟨rfl, hb⟩
    go_wp2_with fail
    go_ret
    exact ⟨by simp, hb⟩
theorem index_cases (l : List UInt8) (c : UInt8) : (Lib.indexByte l c = -1 ∧ c ∉ l) ∨ ∃ a r, l = a ++ c :: r ∧ c ∉ a ∧ Lib.indexByte l c = (a.length : Int) := by
  induction l with
  | nil => exact .inl ⟨rfl, by simp⟩
  | cons b l ih =>
    by_cases hb : b = c
    · exact .inr ⟨[], l, by simp [hb], by simp, by simp [Lib.indexByte, hb]⟩
    · rcases ih with ⟨h1, h2⟩ | ⟨a, r, rfl, h2, h3⟩
      · exact .inl ⟨by simp [Lib.indexByte, hb, h1], by simp [h2, Ne.symm hb]⟩
      · exact .inr ⟨b :: a, r, by simp, by simp [h2, Ne.symm hb], by simp [Lib.indexByte, hb, h3] <;> omega⟩
def cutL (c : UInt8) : List UInt8 → List UInt8 × List UInt8 × Bool
  | [] => ([], [], false)
  | b :: l => if b = c then ([], l, true) else (b :: (cutL c l).1, (cutL c l).2.1, (cutL c l).2.2)
theorem cutL_none (c : UInt8) (l : List UInt8) (h : c ∉ l) : cutL c l = (l, [], false) := by
  induction l with
  | nil => rfl
  | cons b l ih =>
    have hb : b ≠ c := fun e => h (by simp [e])
    rw [cutL, if_neg hb, ih (fun e => h (by simp [e]))]
theorem cutL_some (c : UInt8) (a r : List UInt8) (h : c ∉ a) : cutL c (a ++ c :: r) = (a, r, true) := by
  induction a with
  | nil => simp [cutL]
  | cons b a ih =>
    have hb : b ≠ c := fun e => h (by simp [e])
    rw [List.cons_append, cutL, if_neg hb, ih (fun e => h (by simp [e]))]
set_option maxRecDepth 100000 in
set_option maxHeartbeats 2000000 in
theorem lcut_any (c : UInt8) (l : List UInt8) (hl : l.length < 4611686018427387904) (w : World) :
    Calls Tryd.prog 72 #[.string (B l), .string (B [c])] w fun e w' => e = .returned (.tuple #[.string (B (cutL c l).1), .string (B (cutL c l).2.1), .bool (cutL c l).2.2]) ∧ Below w.heap.size w w' := by
  have hI := Lib.hid (Tryd.stringslite_Index_one (B l) c w)
  rcases index_cases l c with ⟨h1, h2⟩ | ⟨a, r, rfl, h2, h3⟩
  · rw [data_B, h1] at hI
    rw [cutL_none c l h2]
    go_enter Tryd.func72, Tryd.ntmps72
    go_wp2_with fail
    refine hI.out.mono ?_
    rintro e w' ⟨rfl, rfl⟩
    go_wp2_with fail
    exact bodyPost_ret (v := .tuple #[.string (B l), .string (B []), .bool false]) (by simp [results, Tryd.results72, go_sem]) rfl ⟨rfl, Below.refl _ _⟩
  · rw [data_B, h3] at hI
    rw [cutL_some c a r h2]
    rw [List.length_append, List.length_cons] at hl
    have hs : (B (a ++ c :: r)).size = a.length + (r.length + 1) := by rw [size_B]; simp
    have s1 : (B [c]).size = 1 := rfl
    have hw := Aside0.mk (wrap_succ a.length (by omega))
    have e1 : (B (a ++ c :: r)).extract 0 a.length = B a := by rw [extract_B]; simp
    have e2 : (B (a ++ c :: r)).extract (a.length + 1) (a.length + (r.length + 1)) = B r := by
      rw [extract_B]
      have : a ++ c :: r = (a ++ [c]) ++ r := by simp
      rw [List.take_of_length_le (by simp), this, List.drop_left' (by simp)]
    have a1 : ((a.length : Int) ≤ ((a.length + (r.length + 1) : Nat) : Int)) = True := eq_true (by omega)
    have a2 : (((a.length + 1 : Nat) : Int) ≤ ((a.length + (r.length + 1) : Nat) : Int)) = True := eq_true (by omega)
    go_enter Tryd.func72, Tryd.ntmps72
    go_wp2_with fail
    refine hI.out.mono ?_
    rintro e w' ⟨rfl, rfl⟩
    go_wp2_with fail
    go_region
    go_wp2_with fail
    exact bodyPost_ret (v := .tuple #[.string (B a), .string (B r), .bool true]) (by simp [results, Tryd.results72, go_sem]) rfl ⟨rfl, (Below.refl _ _).drew⟩
set_option maxRecDepth 100000 in
set_option maxHeartbeats 2000000 in
theorem cut_any (c : UInt8) (l : List UInt8) (hl : l.length < 4611686018427387904) (w : World) :
    Calls Tryd.prog 47 #[.string (B l), .string (B [c])] w fun e w' => e = .returned (.tuple #[.string (B (cutL c l).1), .string (B (cutL c l).2.1), .bool (cutL c l).2.2]) ∧ Below w.heap.size w w' := by
  have hI := Lib.hid (lcut_any c l hl w)
  go_enter Tryd.func47, Tryd.ntmps47
  go_wp2_with fail
  refine hI.out.mono ?_
  rintro e w' ⟨rfl, hb⟩
  go_wp2_with fail
  exact bodyPost_ret (v := .tuple #[.string (B (cutL c l).1), .string (B (cutL c l).2.1), .bool (cutL c l).2.2]) (by simp [results, Tryd.results47, go_sem]) rfl ⟨rfl, hb⟩
end Go.Proofs.YteniakfclkdlfaaDoor.Sc
end
section
set_option linter.unusedSimpArgs false
set_option linter.unusedVariables false
namespace Go.Proofs.YteniakfclkdlfaaDoor.Sc
open Go.RowKit Go.Lib Go.Shelf Go.Maps Go.WideMaps Go.WideElems Go.Proofs.YteniakfclkdlfaaDoorW.PrintWords Go.Proofs.YteniakfclkdlfaaDoor.U Go.Proofs.YteniakfclkdlfaaDoor.Idx
abbrev Txt := List UInt8
abbrev MapL := Txt → Option Txt
def upd (m : MapL) (k t : Txt) : MapL := fun x => if x = k then some t else m x
def none0 : MapL := fun _ => none
theorem skeyed : Keyed Tryd.prog 9 := string_keyed Tryd.underlying9
theorem szero (w : World) : (zeroValue 9).run Tryd.prog w = .ok (.string ⟨#[]⟩) w := by kernel_rfl
def OwnsM (w : World) (b n : Nat) (m : MapL) : Prop :=
  ∃ D : DataW Unit, w.ownsMap Tryd.prog 9 (plainElem Tryd.prog 9) b n D ∧ (∀ k, Maps.has D (.string k) = (m k).isSome) ∧ (∀ k t, m k = some t → ∀ z, D.atKey (.string k) z = .lit (.string t))
theorem OwnsM.lt {w : World} {b n : Nat} {m : MapL} (h : OwnsM w b n m) : b < w.heap.size := by
  obtain ⟨D, h, _⟩ := h
  exact h.lt
theorem OwnsM.mono {w : World} {b n n' : Nat} {m : MapL} (h : OwnsM w b n m) (hn : n ≤ n') : OwnsM w b n' m := by
  obtain ⟨D, h, r⟩ := h
  exact ⟨D, h.mono hn, r⟩
theorem OwnsM.kept {w w' : World} {b n : Nat} {m : MapL} {row : Option Nat} (h : OwnsM w b n m) (hg : w.grownBy w' row) (hne : some b ≠ row) : OwnsM w' b n m := by
  obtain ⟨D, h, r⟩ := h
  exact ⟨D, h.kept hg hne, r⟩
theorem OwnsM.same {w w' : World} {b n : Nat} {m : MapL} (h : OwnsM w b n m) (hb : w'.heap[b]? = w.heap[b]?) : OwnsM w' b n m := by
  obtain ⟨D, ⟨es, clock, h1, h2⟩, r⟩ := h
  exact ⟨D, ⟨es, clock, hb.trans h1, h2⟩, r⟩
theorem OwnsM.made (w : World) : OwnsM (w.alloc (.map #[] 0)) w.heap.size 0 none0 :=
  ⟨.map [], World.ownsMap_made w _ _ _, fun _ => rfl, fun k t h => by cases h⟩
theorem OwnsM.look {w : World} {b n : Nat} {m : MapL} (h : OwnsM w b n m) (k : Txt) (hk : k.length ≤ maxLen) :
    (Instr.lookup 74 (.map (some b)) (.string (B k)) true).run Tryd.prog w = .ok (.tuple #[.string (B ((m k).getD [])), .bool (m k).isSome]) w := by
  obtain ⟨D, h, h1, h2⟩ := h
  have hkey : keyOf Tryd.prog 9 (.string (B k)) = some (.string k) := keyOf_string_mk Tryd.underlying9 (by rw [size_B]; exact hk)
  obtain ⟨v, ps, hrun, hv⟩ := h.look_ok skeyed Tryd.underlying74 (szero w) (plainElem_string Tryd.underlying9 (by decide)) hkey
  obtain ⟨s, rfl, hs, _⟩ := plainElem_string_inv Tryd.underlying9 hv
  have hat := (Prod.mk.inj hs).1
  rw [hrun, h1 k]
  have : s = B ((m k).getD []) := by
    cases hm : m k with
    | none =>
      show s = B []
      have hn : Maps.has D (.string k) = false := by rw [h1 k, hm]; rfl
      rw [Maps.atKey_of_not_has hn] at hat
      have : ([] : List UInt8) = s.data.toList := Lit.string.inj (DataW.lit.inj hat)
      have e := B_of s
      rw [← this] at e
      exact e
    | some t =>
      show s = B t
      rw [h2 k t hm] at hat
      have : t = s.data.toList := Lit.string.inj (DataW.lit.inj hat)
      have e := B_of s
      rw [← this] at e
      exact e
  rw [this]
theorem OwnsM.store {w : World} {b n : Nat} {m : MapL} (h : OwnsM w b n m) (hn : n < maxLen) (k t : Txt) (hk : k.length ≤ maxLen) (ht : t.length ≤ maxLen) :
    ∃ w', (Instr.mapUpdate 74 (.map (some b)) (.string (B k)) (.string (B t))).run Tryd.prog w = .ok () w' ∧ OwnsM w' b (n + 1) (upd m k t) ∧ w.grownBy w' (some b) := by
  obtain ⟨D, h, h1, h2⟩ := h
  have hkey : keyOf Tryd.prog 9 (.string (B k)) = some (.string k) := keyOf_string_mk Tryd.underlying9 (by rw [size_B]; exact hk)
  obtain ⟨w', hrun, hown, hg⟩ := h.update skeyed Tryd.underlying74 hn hkey (plainElem_string (H := Unit) Tryd.underlying9 (s := B t) (by rw [size_B]; exact ht))
  refine ⟨w', hrun, ⟨_, hown, ?_, ?_⟩, hg⟩
  · intro x
    by_cases hx : x = k
    · subst hx
      rw [has_put_same h.isMap (show WideAt.IsKeyLit (.string x) from trivial)]; simp [upd]
    · rw [has_put_other (by simpa using hx), h1 x]; simp [upd, hx]
  · intro x t' hx' z
    by_cases hx : x = k
    · subst hx
      rw [atKey_put_same h.isMap (show WideAt.IsKeyLit (.string x) from trivial)]
      have : t = t' := by simpa [upd] using hx'
      rw [← this]
    · rw [atKey_put_other (by simpa using hx)]
      exact h2 x t' (by simpa [upd, hx] using hx') z
theorem _root_.Go.RowKit.Below.next {a b c : World} (h : Below a.heap.size a b) (k : Below b.heap.size b c) : Below a.heap.size a c := h.trans (k.mono h.size)
structure Lev where
  b : Nat
  bm : Nat
  n : Nat
  m : MapL
def Chain (w : World) : List Lev → Value → Prop
  | [], v => v = .pointer none
  | s :: r, v => v = .pointer (some ⟨s.b, 0, none⟩) ∧ ∃ up, w.heap[s.b]? = some (.cells #[up, .map (some s.bm)] 76 (0, 0)) ∧ OwnsM w s.bm s.n s.m ∧ Chain w r up
def getL : List Lev → Txt → Txt
  | [], _ => []
  | s :: r, k => match s.m k with
    | some t => t
    | none => getL r k
theorem Chain.same {w w' : World} {L : List Lev} : ∀ {v : Value}, Chain w L v → (∀ s ∈ L, w'.heap[s.b]? = w.heap[s.b]? ∧ w'.heap[s.bm]? = w.heap[s.bm]?) → Chain w' L v := by
  induction L with
  | nil => intro v h _; exact h
  | cons s r ih =>
    intro v h hs
    obtain ⟨hv, up, hb, hm, hr⟩ := h
    exact ⟨hv, up, (hs s (by simp)).1.trans hb, hm.same (hs s (by simp)).2, ih hr fun x hx => hs x (by simp [hx])⟩
theorem Chain.lt {w : World} {L : List Lev} : ∀ {v : Value}, Chain w L v → ∀ s ∈ L, s.b < w.heap.size ∧ s.bm < w.heap.size := by
  induction L with
  | nil => intro v _ s hs; cases hs
  | cons x r ih =>
    intro v h s hs
    obtain ⟨hv, up, hb, hm, hr⟩ := h
    rcases List.mem_cons.1 hs with rfl | hs
    · exact ⟨(Array.getElem?_eq_some_iff.1 hb).1, hm.lt⟩
    · exact ih hr s hs
theorem Chain.below {w w' : World} {L : List Lev} {v : Value} (h : Chain w L v) (hb : Below w.heap.size w w') : Chain w' L v :=
  h.same fun s hs => ⟨hb.block _ (h.lt s hs).1, hb.block _ (h.lt s hs).2⟩
set_option maxRecDepth 100000 in
set_option maxHeartbeats 4000000 in
theorem Get_any (L : List Lev) (v : Value) (k : Txt) (hk : k.length ≤ maxLen) (w : World) (hC : Chain w L v) :
    Calls Tryd.prog 92 #[v, .string (B k)] w fun e w' => e = .returned (.string (B (getL L k))) ∧ w = w' := by
  go_enter Tryd.func92, Tryd.ntmps92
  go_wp2
  go_step3
  go_wp2
  go_step3
  go_wp2
  go_loopg [0] L.length (fun gk s0 wr => ∃ (u : Value) (L' : List Lev), s0 = u ∧ Hid (Chain w L' u) ∧ L'.length ≤ gk ∧ Hid (getL L' k = getL L k) ∧ w = wr)
  case atStart => exact ⟨v, L, rfl, hC, Nat.le_refl _, rfl, rfl⟩
  case round =>
    obtain ⟨u, L', hu, hC', hl, hG, rfl⟩ := hrel
    cases L' with
    | nil =>
      obtain rfl : u = .pointer none := hC'.out
      subst hu
      go_wp2_with fail
      rw [Exit.noGoto_ret]
      go_ret
      exact ⟨by rw [← hG.out]; rfl, rfl⟩
    | cons s r =>
      simp only [List.length_cons] at hl
      cases gk with
      | zero => omega
      | succ gk =>
      obtain ⟨rfl, up, hb, hm, hr⟩ := hC'.out
      subst hu
      have c0 : w.cell? ⟨s.b, 0, none⟩ = some up := by rw [cell_of_heap hb]; rfl
      have c1 : w.cell? ⟨s.b, 1, none⟩ = some (.map (some s.bm)) := by rw [cell_of_heap hb]; rfl
      have hlook := hm.look k hk
      cases hmk : s.m k with
      | none =>
        rw [hmk] at hlook
        simp only [Option.getD_none, Option.isSome_none] at hlook
        have hG' : Hid (getL r k = getL L k) := by
          have := hG.out
          simp only [getL, hmk] at this
          exact this
        have hR := Lib.hid hr
        clear hr hG hm hmk
        go_wp2_with fail
        go_roundg gk
        case measure => omega
        case rel => exact ⟨up, r, rfl, hR, by omega, hG', rfl⟩
      | some t =>
        rw [hmk] at hlook
        simp only [Option.getD_some, Option.isSome_some] at hlook
        have hG' : Hid (t = getL L k) := by
          have := hG.out
          simp only [getL, hmk] at this
          exact this
        clear hr hG hm hmk
        go_wp2_with fail
        rw [Exit.noGoto_ret]
        go_ret
        exact ⟨by rw [← hG'.out]; rfl, rfl⟩
set_option maxRecDepth 100000 in
set_option maxHeartbeats 2000000 in
theorem New_any (q : Option Addr) (w : World) :
    Calls Tryd.prog 17 #[.pointer q] w fun e w' => e = .returned (.pointer (some ⟨w.heap.size + 1, 0, none⟩)) ∧
      (w.alloc (.map #[] 0)).alloc (.cells #[.pointer q, .map (some w.heap.size)] 76) = w' := by
  have hmm := @run_makeMap Tryd.prog
  go_enter Tryd.func17, Tryd.ntmps17
  go_wp2_with fail
  go_ret
  exact ⟨rfl, rfl⟩
def Stored (w w' : World) (s : Lev) (k t : Txt) : Prop := ∃ w1, Below w.heap.size w w1 ∧ w1.grownBy w' (some s.bm) ∧ OwnsM w' s.bm (s.n + 1) (upd s.m k t)
def Lev.set (s : Lev) (k t : Txt) : Lev := ⟨s.b, s.bm, s.n + 1, upd s.m k t⟩
theorem Stored.other {w w' : World} {s : Lev} {k t : Txt} {L : List Lev} {v : Value} (h : Stored w w' s k t) (hC : Chain w L v) (hne : ∀ x ∈ L, x.bm ≠ s.bm ∧ x.b ≠ s.bm) : Chain w' L v := by
  obtain ⟨w1, h1, h2, h3⟩ := h
  have hC1 := hC.below h1
  refine hC1.same fun x hx => ⟨?_, ?_⟩
  · exact h2.block _ (hC1.lt x hx).1 (fun e => (hne x hx).2 (by injection e))
  · exact h2.block _ (hC1.lt x hx).2 (fun e => (hne x hx).1 (by injection e))
theorem Stored.head {w w' : World} {s : Lev} {k t : Txt} {L : List Lev} {v : Value} (h : Stored w w' s k t) (hC : Chain w (s :: L) v) (hne : ∀ x ∈ L, x.bm ≠ s.bm ∧ x.b ≠ s.bm) (hs : s.b ≠ s.bm) : Chain w' (s.set k t :: L) v := by
  obtain ⟨hv, up, hb, hm, hr⟩ := hC
  have hr' := h.other hr hne
  obtain ⟨w1, h1, h2, h3⟩ := h
  refine ⟨hv, up, ?_, h3, hr'⟩
  have hlt := (Array.getElem?_eq_some_iff.1 hb).1
  have hb1 := (h1.block _ hlt).trans hb
  exact (h2.block _ (Array.getElem?_eq_some_iff.1 hb1).1 (fun e => hs (by injection e))).trans hb1
set_option maxRecDepth 100000 in
set_option maxHeartbeats 2000000 in
theorem Set_ok (s : Lev) (r : List Lev) (v : Value) (k t : Txt) (hk : nameL k = true) (hkl : k.length ≤ maxLen) (htl : t.length ≤ maxLen) (hn : s.n < 1000000) (w : World) (hC : Chain w (s :: r) v) :
    Calls Tryd.prog 35 #[v, .string (B k), .string (B t)] w fun e w' => e = .returned (.int .i64 0) ∧ Stored w w' s k t := by
  have hN := Lib.hid (fun W => Name_any k W)
  rw [hk] at hN
  obtain ⟨rfl, up, hb, hm, hr⟩ := hC
  have hlt := (Array.getElem?_eq_some_iff.1 hb).1
  have hHB := Lib.hid hb
  have hHM := Lib.hid hm
  clear hr hb hm
  go_enter Tryd.func35, Tryd.ntmps35
  go_wp2_with fail
  refine (hN.out _).mono ?_
  rintro e w1 ⟨rfl, hB⟩
  have hb1 := (hB.block _ hlt).trans hHB.out
  have c0 : w1.cell? ⟨s.b, 0, none⟩ = some up := by rw [cell_of_heap hb1]; rfl
  have c1 : w1.cell? ⟨s.b, 1, none⟩ = some (.map (some s.bm)) := by rw [cell_of_heap hb1]; rfl
  have hm1 := hHM.out.same (hB.block _ hHM.out.lt)
  obtain ⟨w2, hrun, hown, hg⟩ := hm1.store (by unfold maxLen; omega) k t hkl htl
  clear hb1 hm1
  go_wp2_with fail
  go_ret
  exact ⟨rfl, w1, hB, hg, hown⟩
end Go.Proofs.YteniakfclkdlfaaDoor.Sc
end
section
set_option linter.unusedSimpArgs false
set_option linter.unusedVariables false
namespace Go.Proofs.YteniakfclkdlfaaDoor.Sc
open Go.RowKit Go.Lib Go.Proofs.YteniakfclkdlfaaDoorW.PrintWords Go.Proofs.YteniakfclkdlfaaDoor.U
abbrev escs : ByteArray := ⟨#[36, 32, 58, 124]⟩
def escR (c : Nat) : Bool := c == 36 || c == 32 || c == 58 || c == 124
theorem indexByte_no (l : List UInt8) (c : UInt8) (h : c ∉ l) : Lib.indexByte l c = -1 := by
  induction l with
  | nil => rfl
  | cons b l ih =>
    have h1 : b ≠ c := fun e => h (by simp [e])
    have h2 := ih (fun e => h (by simp [e]))
    unfold Lib.indexByte
    simp [h1, h2]
theorem ib_none (s : ByteArray) (b : Nat) (hs : ∀ x ∈ s.data.toList, x.toNat < 128) (h1 : 128 ≤ b) (h2 : b < 256) (w : World) :
    Calls Tryd.prog 101 #[.string s, .int .u8 (b : Int)] w fun e w' => e = .returned (.int .i64 (-1)) ∧ w' = w := by
  have h := Tryd.strings_IndexByte s (b : Int) w
  rw [indexByte_no] at h
  · exact h
  · intro hm
    have := hs _ hm
    simp at this
    rw [Nat.mod_eq_of_lt h2] at this
    omega
theorem escs_tail (a b : Nat) : ∀ x ∈ (escs.extract a b).data.toList, x.toNat < 128 := by
  intro x hx
  have := mem_extract hx
  simp at this
  rcases this with rfl | rfl | rfl | rfl <;> decide
theorem last_byte_of (rs : ByteArray) (k : Nat) (hk : rs.size = k + 1) (q : ∀ h : rs.size - 1 < rs.size, 128 ≤ (rs[rs.size - 1]'h).toNat) :
    ∃ b : Nat, 128 ≤ b ∧ b < 256 ∧ ∀ h : k < rs.size, ((rs[k]'h).toNat : Int) = (b : Int) := by
  have q4 := q (by omega)
  simp only [hk, Nat.add_sub_cancel] at q4
  exact ⟨(rs[k]'(by omega)).toNat, q4, UInt8.toNat_lt _, fun _ => rfl⟩
theorem enc2 : ∀ i : Fin 128, (Utf8.encode ((i.val + 128 : Nat) : Int)).size = 2 ∧ Lib.validRune ((i.val + 128 : Nat) : Int) = true := by decide +kernel
set_option maxRecDepth 1000000 in
set_option maxHeartbeats 4000000 in
theorem indexRune_two (r : Nat) (h0 : 128 ≤ r) (h1 : r < 256) (w : World) :
    Calls Tryd.prog 89 #[.string escs, .int .i32 (r : Int)] w fun e w' => e = .returned (.int .i64 (-1)) ∧ Below w.heap.size w w' := by
  have hE' : ((r : Int) == 65533) = false := by rw [beq_eq_false_iff_ne]; omega
  have hlt : decide ((r : Int) < 128) = false := by simp; omega
  obtain ⟨hz, hv⟩ := enc2 ⟨r - 128, by omega⟩
  simp only [show r - 128 + 128 = r by omega] at hz hv
  obtain ⟨q1, q2, q3⟩ := encode_facts (r : Int) (by rw [validRune_eq]; exact hv) (by omega)
  generalize hrs : Utf8.encode (r : Int) = rs at q1 q2 q3 hz
  clear q1 q2
  obtain ⟨b, hb1, hb3, hb2⟩ := last_byte_of rs 1 hz q3
  have hne : ((32 : Int) != (b : Int)) = true := by rw [bne_iff_ne]; omega
  clear q3
  have s1 : IntKind.i64.wrap (1 + 1) = 2 := by rfl
  have hsg : ∀ h : 1 < escs.size, ((escs[1]'h).toNat : Int) = 32 := fun _ => rfl
  have HS := Lib.hid (escs_tail 2 4)
  go_enter Tryd.func89, Tryd.ntmps89
  go_wp2_with (first | (go_at_call 102; refine (Tryd.utf8_ValidRune _ _).mono ?_; rintro e w' ⟨rfl, rfl⟩))
  go_step3
  go_wp2_with fail
  refine wp_loop_rounds 1 ?_
  rw [rounds_succ]
  go_wp2_with fail
  go_step3
  go_wp2_with fail
  go_quiet (fail)
  clear hrs hv hE' hlt
  go_wp2_with fail
  go_region_with (go_at_call 101; refine (ib_none _ b HS.out hb1 hb3 _).mono ?_; rintro e w2 ⟨rfl, rfl⟩)
  all_goals go_wp2_with fail
  all_goals (rw [Exit.noGoto_ret]; go_simp; go_ret; exact ⟨rfl, below_drewNg _ _⟩)
theorem esc_ascii : ∀ c : Fin 128, decide (0 ≤ Lib.indexByte escs.data.toList ((c.val : Int).toNat.toUInt8)) = escR c.val := by decide +kernel
set_option maxRecDepth 100000 in
set_option maxHeartbeats 2000000 in
theorem contains_esc (c : Nat) (h1 : c < 256) (w : World) :
    Calls Tryd.prog 68 #[.string escs, .int .i32 (c : Int)] w fun e w' => e = .returned (.bool (escR c)) ∧ Below w.heap.size w w' := by
  by_cases hc : c < 128
  · have h := Tryd.strings_ContainsRune_ascii escs (c : Int) w (by omega) (by omega)
    have e := esc_ascii ⟨c, hc⟩
    simp only at e
    rw [e] at h
    exact h.mono fun e w' ⟨he, hw⟩ => ⟨he, hw ▸ Below.refl _ _⟩
  · have HI := Lib.hid (indexRune_two c (by omega) h1 w)
    have e : escR c = false := by
      have h1 : ¬ c = 36 := by omega
      have h2 : ¬ c = 32 := by omega
      have h3 : ¬ c = 58 := by omega
      have h4 : ¬ c = 124 := by omega
      simp [escR, h1, h2, h3, h4]
    rw [e]
    go_enter Tryd.func68, Tryd.ntmps68
    go_wp2_with fail
    refine HI.out.mono ?_
    rintro e w' ⟨rfl, hb⟩
    go_wp2_with fail
    go_ret
    exact ⟨rfl, hb⟩
end Go.Proofs.YteniakfclkdlfaaDoor.Sc
end
section
set_option linter.unusedSimpArgs false
set_option linter.unusedVariables false
namespace Go.Proofs.YteniakfclkdlfaaDoor.Sc
open Go.RowKit Go.Lib Go.Shelf Go.Proofs.YteniakfclkdlfaaDoorW.PrintWords Go.Proofs.YteniakfclkdlfaaDoor.U Go.Proofs.YteniakfclkdlfaaDoor.Idx
def dollarL (L : List Lev) : Txt → Txt × Txt × Bool
  | [] => ([], [], false)
  | c :: r => if escR c.toNat = true then ([c], r, true) else if c = 123 then (getL L (cutL 125 r).1, (cutL 125 r).2.1, (cutL 125 r).2.2 && nameL (cutL 125 r).1) else
      (getL L ((c :: r).takeWhile shortB), (c :: r).dropWhile shortB, decide ((c :: r).takeWhile shortB ≠ []))
theorem cutL_len (c : UInt8) (l : Txt) : (cutL c l).1.length ≤ l.length ∧ (cutL c l).2.1.length ≤ l.length := by
  induction l with
  | nil => simp [cutL]
  | cons b l ih =>
    rw [cutL]
    split
    · simp
    · simp; omega
theorem take_drop_while (f : UInt8 → Bool) (l : Txt) : l.take (l.takeWhile f).length = l.takeWhile f ∧ l.drop (l.takeWhile f).length = l.dropWhile f := by
  induction l with
  | nil => simp
  | cons b l ih =>
    by_cases h : f b = true
    · simp [List.takeWhile_cons, List.dropWhile_cons, h, ih]
    · simp [List.takeWhile_cons, List.dropWhile_cons, h]
theorem takeWhile_all (f : UInt8 → Bool) (l : Txt) (h : l.all f = true) : l.takeWhile f = l := by
  induction l with
  | nil => rfl
  | cons b l ih =>
    rw [List.all_cons, Bool.and_eq_true] at h
    rw [List.takeWhile_cons, if_pos h.1, ih h.2]
set_option maxRecDepth 100000 in
set_option maxHeartbeats 1000000 in
theorem dollar_any (L : List Lev) (v : Value) (rest : Txt) (hl : rest.length < 4611686018427387904) (w : World) (hC : Chain w L v) :
    Calls Tryd.prog 78 #[v, .string (B rest)] w fun e w' => e = .returned (.tuple #[.string (B (dollarL L rest).1), .string (B (dollarL L rest).2.1), .bool (dollarL L rest).2.2]) ∧ Below w.heap.size w w' := by
  cases rest with
  | nil =>
    go_enter Tryd.func78, Tryd.ntmps78
    go_wp2_with fail
    exact bodyPost_ret (v := .tuple #[.string (B []), .string (B []), .bool false]) (by simp [results, Tryd.results78, go_sem]) rfl ⟨rfl, Below.refl _ _⟩
  | cons c r =>
    simp only [List.length_cons] at hl
    have h0 : ∀ h : 0 < (B (c :: r)).size, (((B (c :: r))[0]'h).toNat : Int) = (c.toNat : Int) := fun h => rfl
    have hsB : (B (c :: r)).size = r.length + 1 := by rw [size_B]; rfl
    have hne2 : (B (c :: r)).toList.isEmpty = false := by rw [toList_B]; rfl
    have hcr := c.toNat_lt
    have hE := Lib.hid (contains_esc c.toNat c.toNat_lt)
    cases he : escR c.toNat with
    | true =>
      rw [he] at hE
      have hd : dollarL L (c :: r) = ([c], r, true) := by rw [dollarL, if_pos he]
      rw [hd]
      have e1 : (B (c :: r)).extract 0 1 = B [c] := by rw [extract_B]; rfl
      have e2 : (B (c :: r)).extract 1 (r.length + 1) = B r := by rw [extract_B]; simp
      have E1 := Lib.hid e1
      have E2 := Lib.hid e2
      clear e1 e2 he hd
      go_enter Tryd.func78, Tryd.ntmps78
      go_wp2_with fail
      refine (hE.out _).mono ?_
      rintro e w' ⟨rfl, hb⟩
      go_wp2_with fail
      go_region
      go_wp2_with fail
      rw [E1.out, E2.out]
      exact bodyPost_ret (v := .tuple #[.string (B [c]), .string (B r), .bool true]) (by simp [results, Tryd.results78, go_sem]) rfl ⟨rfl, hb.drew⟩
    | false =>
      rw [he] at hE
      by_cases h123 : c = 123
      · subst h123
        have hlen := cutL_len 125 r
        have hCut := Lib.hid (fun W => cut_any 125 r (by omega) W)
        have hGet := Lib.hid (fun (W : World) (hW : Chain W L v) => Get_any L v (cutL 125 r).1 (by unfold maxLen; omega) W hW)
        have hName := Lib.hid (fun W => Name_any (cutL 125 r).1 W)
        have hd : dollarL L (123 :: r) = (getL L (cutL 125 r).1, (cutL 125 r).2.1, (cutL 125 r).2.2 && nameL (cutL 125 r).1) := by rw [dollarL, he]; simp
        rw [hd]
        have e2 : (B (123 :: r)).extract 1 (r.length + 1) = B r := by rw [extract_B]; simp
        have hCC := Lib.hid hC
        clear he hd hC hlen
        generalize (cutL 125 r).1 = nm at *
        generalize (cutL 125 r).2.1 = lf at *
        generalize (cutL 125 r).2.2 = cl at *
        cases cl with
        | false =>
          go_enter Tryd.func78, Tryd.ntmps78
          go_wp2_with fail
          refine (hE.out _).mono ?_
          rintro e w1 ⟨rfl, hb1⟩
          go_wp2_with fail
          refine (hCut.out _).mono ?_
          rintro e w2 ⟨rfl, hb2⟩
          go_wp2_with fail
          refine (hGet.out _ ((hCC.out.below hb1).below hb2)).mono ?_
          rintro e w3 ⟨rfl, rfl⟩
          go_wp2_with fail
          exact bodyPost_ret (v := .tuple #[.string (B (getL L nm)), .string (B lf), .bool false]) (by simp [results, Tryd.results78, go_sem]) rfl ⟨rfl, hb1.next hb2⟩
        | true =>
          go_enter Tryd.func78, Tryd.ntmps78
          go_wp2_with fail
          refine (hE.out _).mono ?_
          rintro e w1 ⟨rfl, hb1⟩
          go_wp2_with fail
          refine (hCut.out _).mono ?_
          rintro e w2 ⟨rfl, hb2⟩
          go_wp2_with fail
          refine (hGet.out _ ((hCC.out.below hb1).below hb2)).mono ?_
          rintro e w3 ⟨rfl, rfl⟩
          go_wp2_with fail
          refine (hName.out _).mono ?_
          rintro e w4 ⟨rfl, hb4⟩
          go_wp2_with fail
          exact bodyPost_ret (v := .tuple #[.string (B (getL L nm)), .string (B lf), .bool (nameL nm)]) (by simp [results, Tryd.results78, go_sem]) rfl ⟨by simp, (hb1.next hb2).next hb4⟩
      · have n123 : ((c.toNat : Int) == 123) = false := by rw [beq_eq_false_iff_ne]; exact byte_ne (d := 123) h123
        have hd : dollarL L (c :: r) = (getL L ((c :: r).takeWhile shortB), (c :: r).dropWhile shortB, decide ((c :: r).takeWhile shortB ≠ [])) := by rw [dollarL, he]; simp [h123]
        rw [hd]
        have hI := Lib.hid (fun W => Tryd.strings_IndexFunc_grows 93 #[] (fun args w => by kernel_rfl) (fun c => !shortR c) (B (c :: r)) W (notshort_grows W))
        have hi := idx_func shortR shortR_beyond' (c :: r)
        have hti : (fun b : UInt8 => shortR b.toNat) = shortB := rfl
        rw [hti] at hi
        rw [hi] at hI
        obtain ⟨ht1, ht2⟩ := take_drop_while shortB (c :: r)
        have htl : ((c :: r).takeWhile shortB).length ≤ r.length + 1 := by
          have := congrArg List.length ht1
          rw [List.length_take, List.length_cons] at this
          omega
        have hGet := Lib.hid (fun (W : World) (hW : Chain W L v) => Get_any L v ((c :: r).takeWhile shortB) (by unfold maxLen; omega) W hW)
        have hCC := Lib.hid hC
        clear hi hti hd he hC
        obtain ⟨n, hn⟩ : ∃ n, ((c :: r).takeWhile shortB).length = n := ⟨_, rfl⟩
        have hpos : decide ((c :: r).takeWhile shortB ≠ []) = decide (0 < n) := by
          rw [← hn]
          congr 1
          exact propext (List.length_pos_iff.symm)
        rw [hpos]
        have e1 : (B (c :: r)).extract 0 n = B ((c :: r).takeWhile shortB) := by rw [extract_B, ← hn, ht1]; simp
        have e2 : (B (c :: r)).extract n (r.length + 1) = B ((c :: r).dropWhile shortB) := by rw [extract_B, ← hn, ← ht2, List.take_of_length_le (by simp)]
        have E2 := Lib.hid e2
        rw [hn] at htl
        rw [← e1] at hGet
        have fin : ∀ i : Int, (i = -1 ∧ n = r.length + 1) ∨ i = (n : Int) → Hid (∀ W, Calls Tryd.prog 41 #[.string (B (c :: r)), .func (.func 93) #[] #[]] W fun e w' => e = .returned (.int .i64 i) ∧ Below W.heap.size W w') →
            Calls Tryd.prog 78 #[v, .string (B (c :: r))] w fun e w' => e = .returned (.tuple #[.string (B (getL L ((c :: r).takeWhile shortB))), .string (B ((c :: r).dropWhile shortB)), .bool (decide (0 < n))]) ∧ Below w.heap.size w w' := by
          intro i hi hI
          generalize (c :: r).takeWhile shortB = nm at *
          generalize (c :: r).dropWhile shortB = lf at *
          clear e1 e2 ht1 ht2 hn hpos
          have hnn : ((n : Int) ≤ ((r.length + 1 : Nat) : Int)) = True := eq_true (by omega)
          rcases hi with ⟨rfl, rfl⟩ | rfl
          · have hlf : ByteArray.empty = B lf := by
              have := E2.out
              simpa using this
            have hd : decide (0 < r.length + 1) = true := by simp
            rw [hd]
            go_enter Tryd.func78, Tryd.ntmps78
            go_wp2_with fail
            refine (hE.out _).mono ?_
            rintro e w1 ⟨rfl, hb1⟩
            go_wp2_with fail
            refine (hI.out _).mono ?_
            rintro e w2 ⟨rfl, hb2⟩
            go_wp2_with fail
            have hCh := Lib.hid ((hCC.out.below hb1).below hb2)
            go_region_with (go_at_call 92; refine (hGet.out _ (hCh.out.same (by intro s hs; exact ⟨rfl, rfl⟩))).mono ?_; rintro e w3 ⟨rfl, rfl⟩)
            all_goals go_wp2_with fail
            all_goals go_simp
            all_goals exact bodyPost_ret (v := .tuple #[.string (B (getL L nm)), .string (B lf), .bool true]) (by simp [results, Tryd.results78, go_sem]) rfl ⟨rfl, (hb1.next hb2).drew⟩
          · have hneg : decide ((n : Int) < 0) = false := by rw [decide_eq_false_iff_not]; omega
            go_enter Tryd.func78, Tryd.ntmps78
            go_wp2_with fail
            refine (hE.out _).mono ?_
            rintro e w1 ⟨rfl, hb1⟩
            go_wp2_with fail
            refine (hI.out _).mono ?_
            rintro e w2 ⟨rfl, hb2⟩
            go_wp2_with fail
            have hCh := Lib.hid ((hCC.out.below hb1).below hb2)
            go_region_with (go_at_call 92; refine (hGet.out _ (hCh.out.same (by intro s hs; exact ⟨rfl, rfl⟩))).mono ?_; rintro e w3 ⟨rfl, rfl⟩)
            all_goals go_wp2_with fail
            all_goals go_simp
            all_goals (rw [E2.out]; exact bodyPost_ret (v := .tuple #[.string (B (getL L nm)), .string (B lf), .bool (decide (0 < n))]) (by simp [results, Tryd.results78, go_sem]) rfl ⟨rfl, (hb1.next hb2).drew⟩)
        refine fin _ ?_ hI
        split
        · rename_i h
          refine .inl ⟨rfl, ?_⟩
          rw [← hn, takeWhile_all _ _ h]; rfl
        · exact .inr (by rw [hn])
end Go.Proofs.YteniakfclkdlfaaDoor.Sc
end
section
set_option linter.unusedVariables false
namespace Go.Proofs.YteniakfclkdlfaaDoor.Bld
open Go.RowKit Go.Shelf
theorem info53 : (Tryd.prog.info? 109).map (·.size) = some 2 := by kernel_rfl
theorem lies53 : liesAt Tryd.prog Tryd.prog.depth 109 (2 / Tryd.prog.cellsOf 109) 0 109 1 = true := by kernel_rfl
theorem info5 : (Tryd.prog.info? 5).map (fun i => (i.zero, i.size, i.bytes)) = some (some (.int .u8 0), 1, 1) := by kernel_rfl
set_option maxHeartbeats 1000000 in
set_option maxRecDepth 100000 in
theorem check_used (b : Nat) (w : World) (h0 : w.cell? ⟨b, 0, none⟩ = some (.pointer (some ⟨b, 0, none⟩))) :
    Calls Tryd.prog 80 #[.pointer (some ⟨b, 0, none⟩)] w fun e w' => e = .returned (.tuple #[]) ∧ w' = w := by
  obtain ⟨j, hj, _⟩ := Option.map_eq_some_iff.1 info53
  go_enter Tryd.func80, Tryd.ntmps80
  go_wp2
  rw [Lib.run_neq_ptr_same w _ Tryd.underlying107 hj]
  go_wp2
  go_end0
  exact ⟨rfl, rfl⟩
set_option maxHeartbeats 1000000 in
set_option maxRecDepth 100000 in
theorem check_fresh (b : Nat) (w : World) (h0 : w.cell? ⟨b, 0, none⟩ = some (.pointer none)) (hsh : w.shape? b = some (109, 2)) (hfz : w.frozen? ⟨b, 0, none⟩ = false) :
    Calls Tryd.prog 80 #[.pointer (some ⟨b, 0, none⟩)] w fun e w' => e = .returned (.tuple #[]) ∧ w' = w.setCell ⟨b, 0, none⟩ (.pointer (some ⟨b, 0, none⟩)) := by
  obtain ⟨j, hj, hjs⟩ := Option.map_eq_some_iff.1 info53
  go_enter Tryd.func80, Tryd.ntmps80
  go_wp2
  rw [Lib.run_to_unsafe w ⟨b, 0, none⟩ Tryd.underlying107 Tryd.underlying133 hj (by rw [hjs]; decide) hsh (Nat.zero_lt_succ 1)]
  simp only [Result.andThen]
  rw [Oper.upon_value]
  go_wp2
  rw [run_callFunc_extern Tryd.func94 (by kernel_rfl) (by kernel_rfl) (by kernel_rfl) (e := Extern.AbiNoEscape.same) (by kernel_rfl)]
  rw [Lib.run_noEscape]
  simp only [Result.andThen]
  rw [Oper.upon_value]
  go_wp2
  rw [Lib.run_from_unsafe w ⟨b, 0, none⟩ Tryd.underlying133 Tryd.underlying107 hj hsh lies53]
  simp only [Result.andThen]
  rw [Oper.upon_value]
  go_wp2
  go_end0
  exact ⟨rfl, rfl⟩
abbrev IsB (B b : Nat) (l : List UInt8) (w : World) : Prop := Lib.IsBuilder 109 5 B b (Lib.byteCells l) w
theorem check_any (B b : Nat) (bs : List Value) (w : World) (h : Lib.IsBuilder 109 5 B b bs w) :
    Calls Tryd.prog 80 #[.pointer (some ⟨b, 0, none⟩)] w fun e w' => e = .returned (.tuple #[]) ∧ (Lib.BuilderAt 109 5 B b (.pointer (some ⟨b, 0, none⟩)) bs w' ∧ Below B w w') := by
  rcases h with h | h
  · refine (check_fresh b w h.cell0 h.shape h.frozen0).mono ?_
    rintro e w' ⟨rfl, rfl⟩
    exact ⟨rfl, h.used _, (Below.refl B w).setCell (p := ⟨b, 0, none⟩) h.1 _⟩
  · refine (check_used b w h.cell0).mono ?_
    rintro e w' ⟨rfl, rfl⟩
    exact ⟨rfl, h, Below.refl B _⟩
set_option maxHeartbeats 2000000 in
set_option maxRecDepth 100000 in
theorem write_any (B b : Nat) (bs : List Value) (s : ByteArray) (w : World) (h : Lib.IsBuilder 109 5 B b bs w) (hlen : bs.length + s.size ≤ 140737488355328) (hBw : B ≤ w.heap.size) :
    Calls Tryd.prog 59 #[.pointer (some ⟨b, 0, none⟩), .string s] w fun e w' => e = .returned (.tuple #[.int .i64 s.size, .nilIface]) ∧ (Lib.BuilderAt 109 5 B b (.pointer (some ⟨b, 0, none⟩)) (bs ++ Lib.strCells s) w' ∧ Below B w w') := by
  obtain ⟨i0, hi, hz0, hz1, hz2⟩ := info_parts info5
  go_enter Tryd.func59, Tryd.ntmps59
  go_wp2_with (go_at_call 80; refine (check_any B b bs _ h).mono ?_)
  rintro e w1 ⟨rfl, h1, hb1⟩
  obtain ⟨hB, v, hbk, hown, hne⟩ := h1
  have c0 : w1.cell? ⟨b, 0, none⟩ = some (.pointer (some ⟨b, 0, none⟩)) := by rw [Lib.cell_of_heap hbk]; rfl
  have c1 : w1.cell? ⟨b, 1, none⟩ = some v := by rw [Lib.cell_of_heap hbk]; rfl
  go_wp2_with (at_builtin; refine Lib.wpList_append_own_string _ rfl _ _ 42 9 rfl B 5 i0 Tryd.underlying42 Tryd.underlying9 hi hz0 hz1 hz2 _ _ _ rfl hown s rfl ?c3 ?c4 ?c5 ?_)
  case c3 => unfold maxLen; omega
  case c4 => omega
  case c5 => have := hb1.size; omega
  intro v' w2 hown' hgrow _
  have hlt : b < w1.heap.size := by
    rcases Nat.lt_or_ge b w1.heap.size with h' | h'
    · exact h'
    · simp [Array.getElem?_eq_none h'] at hbk
  have hb2 : w2.heap[b]? = some (.cells #[.pointer (some ⟨b, 0, none⟩), v] 109 (0, 0)) := by
    rw [hgrow.block b hlt (fun e => hne e.symm)]
    exact hbk
  have d0 : w2.cell? ⟨b, 0, none⟩ = some (.pointer (some ⟨b, 0, none⟩)) := by rw [Lib.cell_of_heap hb2]; rfl
  have d1 : w2.cell? ⟨b, 1, none⟩ = some v := by rw [Lib.cell_of_heap hb2]; rfl
  have f1 : w2.frozen? ⟨b, 1, none⟩ = false := Lib.frozen_of_heap hb2 1
  obtain ⟨ao, n', cap, rfl⟩ : ∃ ao n' cap, v' = .slice ao n' cap := by
    rcases hown'.2 with ⟨hv, _⟩ | ⟨g, cap, cur, hv, _⟩
    · exact ⟨_, _, _, hv⟩
    · exact ⟨_, _, _, hv⟩
  go_wp2
  go_ret2
  refine ⟨rfl, ?_, ?_⟩
  · exact Lib.BuilderAt.put (T := 109) (e := 5) hB hb2 (bs' := bs ++ Lib.strCells s) (by simpa [Lib.strCells_length] using hown') (by decide)
  · exact (hb1.grown hgrow (by have := hb1.size; omega) (fun k hk => (hown.lt k hk).1)).setCell (p := ⟨b, 1, none⟩) hB _
theorem strCells_bytes (l : List UInt8) : Lib.strCells ⟨l.toArray⟩ = Lib.byteCells l := by
  simp [Lib.strCells, Lib.byteCells]
theorem write (B b : Nat) (l m : List UInt8) (w : World) (h : IsB B b l w) (hlen : l.length + m.length ≤ 140737488355328) (hBw : B ≤ w.heap.size) :
    Calls Tryd.prog 59 #[.pointer (some ⟨b, 0, none⟩), .string ⟨m.toArray⟩] w fun e w' => e = .returned (.tuple #[.int .i64 m.length, .nilIface]) ∧ IsB B b (l ++ m) w' ∧ Below B w w' := by
  refine (write_any B b (Lib.byteCells l) ⟨m.toArray⟩ w h (by simpa [Lib.byteCells, ByteArray.size] using hlen) hBw).mono ?_
  rintro e w' ⟨rfl, h1, h2⟩
  refine ⟨by simp [ByteArray.size], ?_, h2⟩
  rw [strCells_bytes] at h1
  have : Lib.byteCells (l ++ m) = Lib.byteCells l ++ Lib.byteCells m := by simp [Lib.byteCells]
  show Lib.IsBuilder _ _ _ _ _ _
  rw [this]
  exact .inr h1
end Go.Proofs.YteniakfclkdlfaaDoor.Bld
end
section
set_option linter.unusedSimpArgs false
set_option linter.unusedVariables false
namespace Go.Proofs.YteniakfclkdlfaaDoor.Sc
open Go.RowKit Go.Lib Go.Shelf Go.Proofs.YteniakfclkdlfaaDoorW.PrintWords Go.Proofs.YteniakfclkdlfaaDoor.U Go.Proofs.YteniakfclkdlfaaDoor.Idx Go.Proofs.YteniakfclkdlfaaDoor.Bld
def expGo (L : List Lev) : Nat → Txt → Txt → Bool → Option (Txt × Bool)
  | 0, _, _, _ => none
  | f + 1, text, out, long =>
    if (cutL 36 text).2.2 = false then some (out ++ (cutL 36 text).1, long) else
    if (dollarL L (cutL 36 text).2.1).2.2 = false then none else
    if long = true ∨ 16384 < (out ++ (cutL 36 text).1).length + (dollarL L (cutL 36 text).2.1).1.length then expGo L f (dollarL L (cutL 36 text).2.1).2.1 (out ++ (cutL 36 text).1) true
    else expGo L f (dollarL L (cutL 36 text).2.1).2.1 (out ++ (cutL 36 text).1 ++ (dollarL L (cutL 36 text).2.1).1) false
def finL : Option (Txt × Bool) → Txt × Int
  | none => ([], 10)
  | some (out, long) => if long = true ∨ 16384 < out.length then ([], 3) else (out, 0)
def expandL (L : List Lev) (text : Txt) : Txt × Int := finL (expGo L (text.length + 1) text [] false)
theorem dollarL_len (L : List Lev) (rest : Txt) : (dollarL L rest).2.1.length ≤ rest.length := by
  cases rest with
  | nil => simp [dollarL]
  | cons c r =>
    rw [dollarL]
    split
    · simp
    · split
      · have := cutL_len 125 r
        simp; omega
      · show ((c :: r).dropWhile shortB).length ≤ _
        exact (List.dropWhile_sublist _).length_le
theorem dollarL_own (L : List Lev) (hT : ∀ k, (getL L k).length < 1000000000) (rest : Txt) : (dollarL L rest).1.length < 1000000000 := by
  cases rest with
  | nil => simp [dollarL]
  | cons c r =>
    rw [dollarL]
    split
    · simp
    · split
      · exact hT _
      · exact hT _
theorem cutL_some_len (c : UInt8) (l : Txt) (h : (cutL c l).2.2 = true) : (cutL c l).1.length + 1 + (cutL c l).2.1.length = l.length := by
  induction l with
  | nil => simp [cutL] at h
  | cons b l ih =>
    rw [cutL] at h ⊢
    split at h
    · rename_i hb; rw [if_pos hb]; simp; omega
    · rename_i hb; rw [if_neg hb]; have := ih h; simp; omega
theorem expGo_succ (L : List Lev) (f : Nat) (text out : Txt) (long : Bool) {pl rs ow lf : Txt} {is ok : Bool} (h1 : cutL 36 text = (pl, rs, is)) (h2 : dollarL L rs = (ow, lf, ok)) :
    expGo L (f + 1) text out long = if is = false then some (out ++ pl, long) else if ok = false then none else
      if long = true ∨ 16384 < (out ++ pl).length + ow.length then expGo L f lf (out ++ pl) true else expGo L f lf (out ++ pl ++ ow) false := by
  rw [expGo, h1]
  simp only
  rw [h2]
theorem Len_any (B0 b : Nat) (l : Txt) (w : World) (h : IsB B0 b l w) : Calls Tryd.prog 79 #[.pointer (some ⟨b, 0, none⟩)] w fun e w' => e = .returned (.int .i64 (l.length : Int)) ∧ w = w' := by
  refine (Tryd.Builder_Len B0 b (Lib.byteCells l) w h).mono ?_
  rintro e w' ⟨rfl, rfl⟩
  exact ⟨by simp [Lib.byteCells], rfl⟩
theorem isB_below {B0 b : Nat} {l : Txt} {w w' : World} (h : IsB B0 b l w) (hb : Below w.heap.size w w') : IsB B0 b l w' := by
  have key : ∀ p, Lib.BuilderAt 109 5 B0 b p (Lib.byteCells l) w → Lib.BuilderAt 109 5 B0 b p (Lib.byteCells l) w' := by
    intro p h
    have hlt := h.lt
    obtain ⟨h1, v, h2, h3, h4⟩ := h
    refine ⟨h1, v, (hb.block _ hlt).trans h2, ?_, h4⟩
    exact h3.kept (row := none) ⟨hb.os, hb.tape, hb.output, hb.size, fun k hk _ => hb.block k hk⟩ (Classical.em _)
  rcases h with h | h
  · exact .inl (key _ h)
  · exact .inr (key _ h)
set_option maxRecDepth 100000 in
set_option maxHeartbeats 4000000 in
theorem Expand_any (L : List Lev) (v : Value) (text : Txt) (hl : text.length < 1000000000) (hT : ∀ k, (getL L k).length < 1000000000) (w : World) (hC : Chain w L v) :
    Calls Tryd.prog 57 #[v, .string (B text)] w fun e w' => e = .returned (.tuple #[.string (B (expandL L text).1), .int .i64 (expandL L text).2]) ∧ Below w.heap.size w w' := by
  obtain ⟨R, hR⟩ : ∃ R, expandL L text = R := ⟨_, rfl⟩
  rw [hR]
  have HR := Lib.hid hR
  have hCC := Lib.hid hC
  clear hR hC
  go_enter Tryd.func57, Tryd.ntmps57
  go_wp2
  go_loopg [1, 7] text.length (fun gk s1 s7 wr => ∃ (tx out : Txt) (lg : Bool), s1 = .string (B tx) ∧ s7 = .bool lg ∧ tx.length ≤ gk ∧ tx.length < 1000000000 ∧ out.length + tx.length < 1000020000 ∧
      Hid (finL (expGo L (gk + 1) tx out lg) = R) ∧ Hid (IsB w.heap.size w.heap.size out wr) ∧ Hid (Below w.heap.size w wr))
  case atStart =>
    refine ⟨text, [], false, rfl, rfl, Nat.le_refl _, hl, by simp; omega, HR.out, ?_, (Below.refl _ w).alloc (Nat.le_refl _) _⟩
    refine .inl ⟨Nat.le_refl _, .slice none 0 0, heap_alloc_new _ _, own_nil _ _ _ _, by simp [Value.ownBlock]⟩
  case round =>
    obtain ⟨tx, out, lg, rfl, rfl, hgk, htl, hol, hG, hI, hB⟩ := hrel
    have hCut := Lib.hid (fun W => cut_any 36 tx (by omega) W)
    obtain ⟨pl, rs, is, hcut⟩ : ∃ pl rs is, cutL 36 tx = (pl, rs, is) := ⟨_, _, _, rfl⟩
    obtain ⟨ow, lf, ok, hdol⟩ : ∃ ow lf ok, dollarL L rs = (ow, lf, ok) := ⟨_, _, _, rfl⟩
    have hexp := expGo_succ L gk tx out lg hcut hdol
    have hE := Lib.hid hexp
    clear hexp
    have hpl : pl.length ≤ tx.length ∧ rs.length ≤ tx.length := by
      have := cutL_len 36 tx
      rw [hcut] at this
      exact this
    have hsum : is = true → pl.length + 1 + rs.length = tx.length := by
      have := cutL_some_len 36 tx
      rw [hcut] at this
      exact this
    have hlf : lf.length ≤ rs.length := by
      have := dollarL_len L rs
      rw [hdol] at this
      exact this
    have how : ow.length < 1000000000 := by
      have := dollarL_own L hT rs
      rw [hdol] at this
      exact this
    rw [hcut] at hCut
    have hDol := Lib.hid (fun (W : World) (hW : Chain W L v) => dollar_any L v rs (by omega) W hW)
    rw [hdol] at hDol
    have hWr := Lib.hid (fun (W : World) (h : IsB w.heap.size w.heap.size out W) (hb : Below w.heap.size w W) => write w.heap.size w.heap.size out pl W h (by omega) hb.size)
    have hWo := Lib.hid (fun (W : World) (h : IsB w.heap.size w.heap.size (out ++ pl) W) (hb : Below w.heap.size w W) => write w.heap.size w.heap.size (out ++ pl) ow W h (by rw [List.length_append]; omega) hb.size)
    have hLn := Lib.hid (fun (W : World) (h : IsB w.heap.size w.heap.size (out ++ pl) W) => Len_any w.heap.size w.heap.size (out ++ pl) W h)
    have hSt := Lib.hid (fun (W : World) (h : IsB w.heap.size w.heap.size (out ++ pl) W) (hb : Below w.heap.size w W) => Tryd.Builder_String_any w.heap.size w.heap.size (out ++ pl) W h hb.size)
    have hopl : (out ++ pl).length ≤ 1000020000 := by rw [List.length_append]; omega
    obtain ⟨N, hN⟩ : ∃ N, (out ++ pl).length = N := ⟨_, rfl⟩
    have hows : (B ow).size = ow.length := size_B ow
    rw [hN] at hopl
    simp only [hN] at hLn
    clear hcut hdol
    cases is with
    | false =>
      cases lg with
      | true =>
        have hfin : Hid (R = ([], 3)) := by
          rw [← hG.out, hE.out]; rfl
        go_wp2_with fail
        refine (hCut.out _).mono ?_
        rintro e w1 ⟨rfl, hb1⟩
        have hI1 := Lib.hid (isB_below hI.out hb1)
        have hB1 := Lib.hid (hB.out.trans (hb1.mono hB.out.size))
        go_wp2_with fail
        refine (hWr.out _ hI1.out hB1.out).mono ?_
        rintro e w2 ⟨rfl, hi2, hb2⟩
        have hI2 := Lib.hid hi2
        have hB2 := Lib.hid (hB1.out.trans hb2)
        clear hi2 hb1 hb2
        go_wp2_with fail
        go_ret2
        rw [hfin.out]
        exact ⟨rfl, hB2.out⟩
      | false =>
        by_cases hbig : 16384 < N
        · have hfin : Hid (R = ([], 3)) := by
            show R = _
            rw [← hG.out, hE.out]; simp [finL, hN, hbig]
          have hd : decide ((16384 : Int) < (N : Int)) = true := by rw [decide_eq_true_iff]; omega
          go_wp2_with fail
          refine (hCut.out _).mono ?_
          rintro e w1 ⟨rfl, hb1⟩
          have hI1 := Lib.hid (isB_below hI.out hb1)
          have hB1 := Lib.hid (hB.out.trans (hb1.mono hB.out.size))
          go_wp2_with fail
          refine (hWr.out _ hI1.out hB1.out).mono ?_
          rintro e w2 ⟨rfl, hi2, hb2⟩
          have hI2 := Lib.hid hi2
          have hB2 := Lib.hid (hB1.out.trans hb2)
          clear hi2 hb1 hb2
          go_wp2_with fail
          refine (hLn.out _ hI2.out).mono ?_
          rintro e w3 ⟨rfl, rfl⟩
          go_wp2_with fail
          go_ret2
          rw [hfin.out]
          exact ⟨rfl, hB2.out⟩
        · have hfin : Hid (R = (out ++ pl, 0)) := by
            show R = _
            rw [← hG.out, hE.out]; simp [finL, hN, hbig]
          have hd : decide ((16384 : Int) < (N : Int)) = false := by rw [decide_eq_false_iff_not]; omega
          go_wp2_with fail
          refine (hCut.out _).mono ?_
          rintro e w1 ⟨rfl, hb1⟩
          have hI1 := Lib.hid (isB_below hI.out hb1)
          have hB1 := Lib.hid (hB.out.trans (hb1.mono hB.out.size))
          go_wp2_with fail
          refine (hWr.out _ hI1.out hB1.out).mono ?_
          rintro e w2 ⟨rfl, hi2, hb2⟩
          have hI2 := Lib.hid hi2
          have hB2 := Lib.hid (hB1.out.trans hb2)
          clear hi2 hb1 hb2
          go_wp2_with fail
          refine (hLn.out _ hI2.out).mono ?_
          rintro e w3 ⟨rfl, rfl⟩
          go_wp2_with fail
          refine (hSt.out _ hI2.out hB2.out).mono ?_
          rintro e w3 ⟨rfl, hb3⟩
          have hB3 := Lib.hid (hB2.out.trans hb3)
          clear hb3
          go_wp2_with fail
          go_ret2
          rw [hfin.out]
          exact ⟨rfl, hB3.out⟩
    | true =>
      cases ok with
      | false =>
        have hfin : Hid (R = ([], 10)) := by
          rw [← hG.out, hE.out]; rfl
        go_wp2_with fail
        refine (hCut.out _).mono ?_
        rintro e w1 ⟨rfl, hb1⟩
        have hI1 := Lib.hid (isB_below hI.out hb1)
        have hB1 := Lib.hid (hB.out.trans (hb1.mono hB.out.size))
        go_wp2_with fail
        refine (hWr.out _ hI1.out hB1.out).mono ?_
        rintro e w2 ⟨rfl, hi2, hb2⟩
        have hI2 := Lib.hid hi2
        have hB2 := Lib.hid (hB1.out.trans hb2)
        clear hi2 hb1 hb2
        go_wp2_with fail
        refine (hDol.out _ (hCC.out.below hB2.out)).mono ?_
        rintro e w3 ⟨rfl, hb3⟩
        have hB3 := Lib.hid (hB2.out.trans (hb3.mono hB2.out.size))
        clear hb3
        go_wp2_with fail
        go_ret2
        rw [hfin.out]
        exact ⟨rfl, hB3.out⟩
      | true =>
        have hs := hsum rfl
        cases gk with
        | zero => omega
        | succ gk =>
        cases lg with
        | true =>
          have hG' : Hid (finL (expGo L (gk + 1) lf (out ++ pl) true) = R) := by
            have := hG.out
            rw [hE.out] at this
            show finL _ = R
            simpa using this
          go_wp2_with fail
          refine (hCut.out _).mono ?_
          rintro e w1 ⟨rfl, hb1⟩
          have hI1 := Lib.hid (isB_below hI.out hb1)
          have hB1 := Lib.hid (hB.out.trans (hb1.mono hB.out.size))
          go_wp2_with fail
          refine (hWr.out _ hI1.out hB1.out).mono ?_
          rintro e w2 ⟨rfl, hi2, hb2⟩
          have hI2 := Lib.hid hi2
          have hB2 := Lib.hid (hB1.out.trans hb2)
          clear hi2 hb1 hb2
          go_wp2_with fail
          refine (hDol.out _ (hCC.out.below hB2.out)).mono ?_
          rintro e w3 ⟨rfl, hb3⟩
          have hB3 := Lib.hid (hB2.out.trans (hb3.mono hB2.out.size))
          have hI3 := Lib.hid (isB_below hI2.out hb3)
          clear hb3
          go_wp2_with fail
          go_roundg gk
          case measure => omega
          case rel => exact ⟨lf, out ++ pl, true, rfl, rfl, by omega, by omega, by rw [hN]; rw [List.length_append] at hN; omega, hG', hI3, hB3⟩
        | false =>
          by_cases hbig : 16384 < N + ow.length
          · have hG' : Hid (finL (expGo L (gk + 1) lf (out ++ pl) true) = R) := by
              have := hG.out
              rw [hE.out] at this
              show finL _ = R
              simpa [hN, hbig] using this
            have hd : decide ((16384 : Int) < (N : Int) + (ow.length : Int)) = true := by rw [decide_eq_true_iff]; omega
            go_wp2_with fail
            refine (hCut.out _).mono ?_
            rintro e w1 ⟨rfl, hb1⟩
            have hI1 := Lib.hid (isB_below hI.out hb1)
            have hB1 := Lib.hid (hB.out.trans (hb1.mono hB.out.size))
            go_wp2_with fail
            refine (hWr.out _ hI1.out hB1.out).mono ?_
            rintro e w2 ⟨rfl, hi2, hb2⟩
            have hI2 := Lib.hid hi2
            have hB2 := Lib.hid (hB1.out.trans hb2)
            clear hi2 hb1 hb2
            go_wp2_with fail
            refine (hDol.out _ (hCC.out.below hB2.out)).mono ?_
            rintro e w3 ⟨rfl, hb3⟩
            have hB3 := Lib.hid (hB2.out.trans (hb3.mono hB2.out.size))
            have hI3 := Lib.hid (isB_below hI2.out hb3)
            clear hb3
            go_wp2_with fail
            refine (hLn.out _ hI3.out).mono ?_
            rintro e w4 ⟨rfl, rfl⟩
            go_wp2_with fail
            go_roundg gk
            case measure => omega
            case rel => exact ⟨lf, out ++ pl, true, rfl, rfl, by omega, by omega, by rw [hN]; rw [List.length_append] at hN; omega, hG', hI3, hB3⟩
          · have hG' : Hid (finL (expGo L (gk + 1) lf (out ++ pl ++ ow) false) = R) := by
              have := hG.out
              rw [hE.out] at this
              show finL _ = R
              simpa [hN, hbig] using this
            have hd : decide ((16384 : Int) < (N : Int) + (ow.length : Int)) = false := by rw [decide_eq_false_iff_not]; omega
            go_wp2_with fail
            refine (hCut.out _).mono ?_
            rintro e w1 ⟨rfl, hb1⟩
            have hI1 := Lib.hid (isB_below hI.out hb1)
            have hB1 := Lib.hid (hB.out.trans (hb1.mono hB.out.size))
            go_wp2_with fail
            refine (hWr.out _ hI1.out hB1.out).mono ?_
            rintro e w2 ⟨rfl, hi2, hb2⟩
            have hI2 := Lib.hid hi2
            have hB2 := Lib.hid (hB1.out.trans hb2)
            clear hi2 hb1 hb2
            go_wp2_with fail
            refine (hDol.out _ (hCC.out.below hB2.out)).mono ?_
            rintro e w3 ⟨rfl, hb3⟩
            have hB3 := Lib.hid (hB2.out.trans (hb3.mono hB2.out.size))
            have hI3 := Lib.hid (isB_below hI2.out hb3)
            clear hb3
            go_wp2_with fail
            refine (hLn.out _ hI3.out).mono ?_
            rintro e w4 ⟨rfl, rfl⟩
            go_wp2_with fail
            refine (hWo.out _ hI3.out hB3.out).mono ?_
            rintro e w5 ⟨rfl, hi5, hb5⟩
            have hI5 := Lib.hid hi5
            have hB5 := Lib.hid (hB3.out.trans hb5)
            clear hi5 hb5
            go_wp2_with fail
            go_roundg gk
            case measure => omega
            case rel => exact ⟨lf, out ++ pl ++ ow, false, rfl, rfl, by omega, by omega, by rw [List.length_append, hN]; omega, hG', hI5, hB5⟩
end Go.Proofs.YteniakfclkdlfaaDoor.Sc
end
section
set_option linter.unusedSimpArgs false
set_option linter.unusedVariables false
namespace Go.Proofs.YteniakfclkdlfaaDoor.Sc
open Go.RowKit Go.Lib Go.Shelf Go.Proofs.YteniakfclkdlfaaDoorW.PrintWords Go.Proofs.YteniakfclkdlfaaDoor.U Go.Proofs.YteniakfclkdlfaaDoor.Idx
section
variable {L : List Lev}
def E (L : List Lev) (text out : Txt) (long : Bool) : Option (Txt × Bool) := expGo L (text.length + 1) text out long
def R (L : List Lev) (a : Txt) (r : Option Txt) : Prop := (∀ out : Txt, out.length + 50 * a.length ≤ 16384 → E L a out false = r.map fun x => (out ++ x, false)) ∧ ∀ x, r = some x → x.length ≤ 50 * a.length
end
end Go.Proofs.YteniakfclkdlfaaDoor.Sc
end
section
set_option linter.unusedSimpArgs false
set_option linter.unusedVariables false
namespace Go.Proofs.YteniakfclkdlfaaDoor.Ln
open Go.RowKit Go.Lib Go.Shelf Go.Proofs.YteniakfclkdlfaaDoorW.PrintWords Go.Proofs.YteniakfclkdlfaaDoor.U
abbrev Txt := List UInt8
def trimL (c : UInt8) (l : Txt) : Txt := Lib.trimLeftB l c
def trimR (c : UInt8) (l : Txt) : Txt := Lib.trimRightB l c
theorem trimL_len (c : UInt8) (l : Txt) : (trimL c l).length ≤ l.length := (List.dropWhile_sublist _).length_le
theorem trimR_len (c : UInt8) (l : Txt) : (trimR c l).length ≤ l.length := by
  unfold trimR Lib.trimRightB
  rw [List.length_reverse]
  have := (List.dropWhile_sublist (l := l.reverse) (· == c)).length_le
  rw [List.length_reverse] at this
  exact this
theorem TrimLeft_any (c : UInt8) (hc : c.toNat < 128) (l : Txt) (w : World) : Calls Tryd.prog 25 #[.string (B l), .string (B [c])] w fun e w' => e = .returned (.string (B (trimL c l))) ∧ w = w' := by
  refine (Tryd.strings_TrimLeft_one (B l) c hc w).mono ?_
  rintro e w' ⟨rfl, rfl⟩
  exact ⟨rfl, rfl⟩
theorem TrimRight_any (c : UInt8) (hc : c.toNat < 128) (l : Txt) (hl : l.length < 4611686018427387904) (w : World) : Calls Tryd.prog 46 #[.string (B l), .string (B [c])] w fun e w' => e = .returned (.string (B (trimR c l))) ∧ w = w' := by
  refine (Tryd.strings_TrimRight_one (B l) c hc w (by rw [size_B]; omega)).mono ?_
  rintro e w' ⟨rfl, rfl⟩
  exact ⟨rfl, rfl⟩
def oddL (l : Txt) : Bool := decide ((l.length - (trimR 36 l).length) % 2 = 1)
set_option maxRecDepth 100000 in
set_option maxHeartbeats 2000000 in
theorem unpaired_any (l : Txt) (hl : l.length < 4611686018427387904) (w : World) :
    Calls Tryd.prog 27 #[.string (B l)] w fun e w' => e = .returned (.bool (oddL l)) ∧ w = w' := by
  have hT := Lib.hid (TrimRight_any 36 (by decide) l hl)
  have h1 := trimR_len 36 l
  have s1 : (B l).size = l.length := size_B l
  have s2 : (B (trimR 36 l)).size = (trimR 36 l).length := size_B _
  have hO : Hid (oddL l = decide ((l.length - (trimR 36 l).length) % 2 = 1)) := rfl
  generalize trimR 36 l = t at *
  have hm : Hid (Int.tmod ((l.length : Int) - (t.length : Int)) 2 = (((l.length - t.length) % 2 : Nat) : Int)) := by
    show Int.tmod _ _ = _
    rw [Int.tmod_eq_emod_of_nonneg (by omega)]; omega
  go_enter Tryd.func27, Tryd.ntmps27
  go_wp2_with fail
  refine (hT.out _).mono ?_
  rintro e w' ⟨rfl, rfl⟩
  go_wp2_with fail
  go_ret
  refine ⟨?_, rfl⟩
  rw [hO.out]
  have e : (((l.length : Int) - (t.length : Int)) % 2 == 1) = decide ((l.length - t.length) % 2 = 1) := by
    rw [Bool.eq_iff_iff, beq_iff_eq, decide_eq_true_iff]; omega
  show Ending.returned (.bool (((l.length : Int) - (t.length : Int)) % 2 == 1)) = _
  rw [e]
def emptyL (l : Txt) : Bool := match trimL 32 l with | [] => true | c :: _ => c == 35
set_option maxRecDepth 100000 in
set_option maxHeartbeats 2000000 in
theorem empty_any (l : Txt) (w : World) :
    Calls Tryd.prog 26 #[.string (B l)] w fun e w' => e = .returned (.bool (emptyL l)) ∧ w = w' := by
  have hT := Lib.hid (TrimLeft_any 32 (by decide) l)
  have hE : Hid (emptyL l = match trimL 32 l with | [] => true | c :: _ => c == 35) := rfl
  generalize trimL 32 l = t at *
  cases t with
  | nil =>
    go_enter Tryd.func26, Tryd.ntmps26
    go_wp2_with fail
    refine (hT.out _).mono ?_
    rintro e w' ⟨rfl, rfl⟩
    go_wp2_with fail
    go_ret
    exact ⟨by rw [hE.out]; rfl, rfl⟩
  | cons c t =>
    have h0 : ∀ h : 0 < (B (c :: t)).size, (((B (c :: t))[0]'h).toNat : Int) = (c.toNat : Int) := fun h => rfl
    have hsB : (B (c :: t)).size = t.length + 1 := by rw [size_B]; rfl
    have hne2 : (B (c :: t)).toList.isEmpty = false := by rw [toList_B]; rfl
    have hcr := c.toNat_lt
    by_cases h35 : c = 35
    · subst h35
      go_enter Tryd.func26, Tryd.ntmps26
      go_wp2_with fail
      refine (hT.out _).mono ?_
      rintro e w' ⟨rfl, rfl⟩
      go_wp2_with fail
      go_ret
      exact ⟨by rw [hE.out]; rfl, rfl⟩
    · have n35 : ((c.toNat : Int) == 35) = false := by rw [beq_eq_false_iff_ne]; exact byte_ne (d := 35) h35
      have e35 : (c == 35) = false := by rw [beq_eq_false_iff_ne]; exact h35
      go_enter Tryd.func26, Tryd.ntmps26
      go_wp2_with fail
      refine (hT.out _).mono ?_
      rintro e w' ⟨rfl, rfl⟩
      go_wp2_with fail
      go_ret
      exact ⟨by rw [hE.out]; simp only [e35]; rfl, rfl⟩
def trimmedL (l : Txt) : Txt := if (trimR 32 (trimL 32 l)).length < (trimL 32 l).length ∧ oddL (trimR 32 (trimL 32 l)) = true then trimR 32 (trimL 32 l) ++ [32] else trimR 32 (trimL 32 l)
set_option maxRecDepth 100000 in
set_option maxHeartbeats 2000000 in
theorem trimmed_any (l : Txt) (hl : l.length < 4611686018427387904) (w : World) :
    Calls Tryd.prog 28 #[.string (B l)] w fun e w' => e = .returned (.string (B (trimmedL l))) ∧ w = w' := by
  have hT := Lib.hid (TrimLeft_any 32 (by decide) l)
  have h1 := trimL_len 32 l
  have hE : Hid (trimmedL l = if (trimR 32 (trimL 32 l)).length < (trimL 32 l).length ∧ oddL (trimR 32 (trimL 32 l)) = true then trimR 32 (trimL 32 l) ++ [32] else trimR 32 (trimL 32 l)) := rfl
  generalize trimL 32 l = s at *
  have hR := Lib.hid (TrimRight_any 32 (by decide) s (by omega))
  have h2 := trimR_len 32 s
  generalize trimR 32 s = t at *
  have hU := Lib.hid (unpaired_any t (by omega))
  have s1 : (B s).size = s.length := size_B s
  have s2 : (B t).size = t.length := size_B t
  by_cases hlt : t.length < s.length
  · have hd : decide ((t.length : Int) < (s.length : Int)) = true := by rw [decide_eq_true_iff]; omega
    cases ho : oddL t with
    | true =>
      have hE2 : Hid (trimmedL l = t ++ [32]) := by show _ = _; rw [hE.out, if_pos ⟨hlt, ho⟩]
      rw [ho] at hU
      have hap : B t ++ (⟨#[32]⟩ : ByteArray) = B (t ++ [32]) := by
        show B t ++ B [32] = _
        rw [B_append]
      have hAP := Lib.hid hap
      clear hap
      go_enter Tryd.func28, Tryd.ntmps28
      go_wp2_with fail
      refine (hT.out _).mono ?_
      rintro e w1 ⟨rfl, rfl⟩
      go_wp2_with fail
      refine (hR.out _).mono ?_
      rintro e w1 ⟨rfl, rfl⟩
      go_wp2_with fail
      refine (hU.out _).mono ?_
      rintro e w1 ⟨rfl, rfl⟩
      go_wp2_with fail
      go_ret
      refine ⟨?_, rfl⟩
      rw [hE2.out, ← hAP.out]; rfl
    | false =>
      have hE2 : Hid (trimmedL l = t) := by show _ = _; rw [hE.out, if_neg (by simp [ho])]
      rw [ho] at hU
      go_enter Tryd.func28, Tryd.ntmps28
      go_wp2_with fail
      refine (hT.out _).mono ?_
      rintro e w1 ⟨rfl, rfl⟩
      go_wp2_with fail
      refine (hR.out _).mono ?_
      rintro e w1 ⟨rfl, rfl⟩
      go_wp2_with fail
      refine (hU.out _).mono ?_
      rintro e w1 ⟨rfl, rfl⟩
      go_wp2_with fail
      go_ret
      exact ⟨by rw [hE2.out]; rfl, rfl⟩
  · have hd : decide ((t.length : Int) < (s.length : Int)) = false := by rw [decide_eq_false_iff_not]; omega
    have hE2 : Hid (trimmedL l = t) := by show _ = _; rw [hE.out, if_neg (by simp [hlt])]
    go_enter Tryd.func28, Tryd.ntmps28
    go_wp2_with fail
    refine (hT.out _).mono ?_
    rintro e w1 ⟨rfl, rfl⟩
    go_wp2_with fail
    refine (hR.out _).mono ?_
    rintro e w1 ⟨rfl, rfl⟩
    go_wp2_with fail
    go_ret
    exact ⟨by rw [hE2.out]; rfl, rfl⟩
end Go.Proofs.YteniakfclkdlfaaDoor.Ln
end
section
set_option linter.unusedSimpArgs false
set_option linter.unusedVariables false
namespace Go.Proofs.YteniakfclkdlfaaDoor.Ln
open Go.RowKit Go.Lib Go.Shelf Go.Proofs.YteniakfclkdlfaaDoorW.PrintWords Go.Proofs.YteniakfclkdlfaaDoor.U Go.Proofs.YteniakfclkdlfaaDoor.Idx
def spl (c : UInt8) : Txt → List Txt
  | [] => [[]]
  | b :: l => if b = c then [] :: spl c l else match spl c l with
    | [] => [[b]]
    | p :: ps => (b :: p) :: ps
theorem spl_ne (c : UInt8) (l : Txt) : spl c l ≠ [] := by
  cases l with
  | nil => simp [spl]
  | cons b l =>
    unfold spl; split
    · simp
    · split <;> simp
theorem spl_none (c : UInt8) (l : Txt) (h : c ∉ l) : spl c l = [l] := by
  induction l with
  | nil => rfl
  | cons b l ih =>
    have h1 : b ≠ c := fun e => h (by simp [e])
    rw [spl, if_neg h1, ih (fun e => h (by simp [e]))]
theorem spl_at (c : UInt8) (a l : Txt) (h : c ∉ a) : spl c (a ++ c :: l) = a :: spl c l := by
  induction a with
  | nil => simp [spl]
  | cons b a ih =>
    have h1 : b ≠ c := fun e => h (by simp [e])
    rw [List.cons_append, spl, if_neg h1, ih (fun e => h (by simp [e]))]
theorem idx_cases (l : Txt) (c : UInt8) : (Lib.indexByte l c = -1 ∧ c ∉ l) ∨ ∃ a r, l = a ++ c :: r ∧ c ∉ a ∧ Lib.indexByte l c = (a.length : Int) := by
  induction l with
  | nil => exact .inl ⟨rfl, by simp⟩
  | cons b l ih =>
    by_cases hb : b = c
    · exact .inr ⟨[], l, by simp [hb], by simp, by simp [Lib.indexByte, hb]⟩
    · rcases ih with ⟨h1, h2⟩ | ⟨a, r, rfl, h2, h3⟩
      · exact .inl ⟨by simp [Lib.indexByte, hb, h1], by simp [h2, Ne.symm hb]⟩
      · exact .inr ⟨b :: a, r, by simp, by simp [h2, Ne.symm hb], by simp [Lib.indexByte, hb, h3] <;> omega⟩
theorem splitK_spl (c : UInt8) (n : Nat) : ∀ l : Txt, l.length ≤ n → Lib.splitK [c] 0 (l.count c) l = spl c l := by
  induction n with
  | zero =>
    intro l hl
    obtain rfl := List.length_eq_zero_iff.1 (Nat.le_zero.1 hl)
    rfl
  | succ n ih =>
    intro l hl
    rcases idx_cases l c with ⟨_, h2⟩ | ⟨a, r, rfl, h2, h3⟩
    · rw [List.count_eq_zero.2 h2, spl_none c l h2]; rfl
    · have hc : (a ++ c :: r).count c = r.count c + 1 := by rw [List.count_append, List.count_cons_self, List.count_eq_zero.2 h2]; omega
      have hi : Lib.index (a ++ c :: r) [c] = (a.length : Int) := by rw [Lib.index_one, h3]
      have hne : ((a.length : Int) == -1) = false := by rw [beq_eq_false_iff_ne]; omega
      rw [List.length_append, List.length_cons] at hl
      rw [hc, Lib.splitK, hi, hne, spl_at c a r h2]
      have hd : (a ++ c :: r).drop (a.length + 1) = r := by rw [show a ++ c :: r = (a ++ [c]) ++ r by simp, List.drop_left' (by simp)]
      simp only [Bool.false_eq_true, if_false, Int.toNat_natCast, Nat.add_zero, List.length_singleton, List.take_left, hd, ih r (by omega)]
theorem splitB_spl (c : UInt8) (l : Txt) : Lib.splitB (B [c]) 0 (l.count c) (B l) = (spl c l).map B := by
  have h := Lib.splitB_data (B [c]) 0 (l.count c) (B l)
  rw [show (B [c]).data.toList = [c] from rfl, data_B, splitK_spl c l.length l (Nat.le_refl _)] at h
  have h2 := congrArg (List.map B) h
  rw [List.map_map] at h2
  rw [← h2]
  conv => lhs; rw [← List.map_id (Lib.splitB (B [c]) 0 (l.count c) (B l))]
  apply List.map_congr_left
  intro s _
  exact B_of s
theorem spl_len (c : UInt8) (l : Txt) : (spl c l).length = l.count c + 1 := by
  induction l with
  | nil => rfl
  | cons b l ih =>
    rw [spl]
    by_cases hb : b = c
    · subst hb; rw [if_pos rfl, List.length_cons, ih, List.count_cons_self]
    · rw [if_neg hb, List.count_cons_of_ne hb, ← ih]
      cases h : spl c l with
      | nil => exact absurd h (spl_ne c l)
      | cons p ps => rfl
theorem Split_any (c : UInt8) (l : Txt) (hl : l.length < 4294967281) (w : World) (hm : ∃ m, w.cell? ⟨0, 0, none⟩ = some (.int .i64 m)) :
    Calls Tryd.prog 23 #[.string (B l), .string (B [c])] w fun e w' =>
      e = .returned (.slice (some ⟨w.heap.size, 0, none⟩) (spl c l).length (spl c l).length) ∧ w.alloc (.cells (((spl c l).map B).map Value.string).toArray 9) = w' := by
  obtain ⟨m, hm⟩ := hm
  have hc : Lib.countB (B l) (B [c]) = l.count c := Lib.count_one c l
  refine (Tryd.strings_Split (B l) (B [c]) m w (by rw [size_B]; exact hl) hm (by rw [size_B]; exact Nat.le_refl 1)).mono ?_
  rw [hc, splitB_spl, ← spl_len]
  rintro e w' ⟨rfl, rfl⟩
  exact ⟨rfl, rfl⟩
def okR (c : Nat) : Bool := decide (32 ≤ c) && decide (c < 127)
theorem okR_beyond (c : Nat) (h : 128 ≤ c) : okR c = false := by
  have : ¬ c < 127 := by omega
  simp [okR, this]
set_option maxRecDepth 100000 in
set_option maxHeartbeats 2000000 in
theorem bad_grows (w : World) : PredGrows Tryd.prog 22 #[] (fun c => !okR c) w := by
  intro W x hx hb
  show Calls Tryd.prog _ _ W fun e w' => e = .returned (.bool (!okR x)) ∧ Below W.heap.size W w'
  rcases (show x < 32 ∨ (32 ≤ x ∧ x < 127) ∨ 127 ≤ x by omega) with h | ⟨h1, h2⟩ | h
  · have e : (!okR x) = true := by
      have : ¬ 32 ≤ x := by omega
      simp [okR, this]
    have d1 : decide ((x : Int) < 32) = true := by rw [decide_eq_true_iff]; omega
    rw [e]
    go_enter Tryd.func22, Tryd.ntmps22
    go_wp2_with fail
    go_ret
    exact ⟨rfl, Below.refl _ _⟩
  · have e : (!okR x) = false := by simp [okR, h1, h2]
    have d1 : decide ((x : Int) < 32) = false := by rw [decide_eq_false_iff_not]; omega
    have d2 : decide (127 ≤ (x : Int)) = false := by rw [decide_eq_false_iff_not]; omega
    rw [e]
    go_enter Tryd.func22, Tryd.ntmps22
    go_wp2_with fail
    go_ret
    exact ⟨rfl, Below.refl _ _⟩
  · have e : (!okR x) = true := by
      have : ¬ x < 127 := by omega
      simp [okR, this]
    have d1 : decide ((x : Int) < 32) = false := by rw [decide_eq_false_iff_not]; omega
    have d2 : decide (127 ≤ (x : Int)) = true := by rw [decide_eq_true_iff]; omega
    rw [e]
    go_enter Tryd.func22, Tryd.ntmps22
    go_wp2_with fail
    go_ret
    exact ⟨rfl, Below.refl _ _⟩
def okL (l : Txt) : Bool := l.all fun b => okR b.toNat
theorem bad_any (l : Txt) (w : World) :
    Calls Tryd.prog 24 #[.string (B l), .func (.func 22) #[] #[]] w fun e w' => e = .returned (.bool (!okL l)) ∧ Below w.heap.size w w' := by
  have h := Tryd.strings_ContainsFunc_grows 22 #[] (fun args w => by kernel_rfl) (fun c => !okR c) (B l) w (bad_grows w)
  have hi := idx_func okR okR_beyond l
  have hd : decide ((0 : Int) ≤ Lib.idxFunc (fun c => !okR c) true (B l)) = !okL l := by
    rw [hi, okL]
    cases l.all (fun b => okR b.toNat) with
    | true => rfl
    | false => simp <;> omega
  rw [hd] at h
  exact h
end Go.Proofs.YteniakfclkdlfaaDoor.Ln
end
section
set_option linter.unusedSimpArgs false
set_option linter.unusedVariables false
namespace Go.Proofs.YteniakfclkdlfaaDoor.Ln
open Go.RowKit Go.Lib Go.Shelf Go.Proofs.YteniakfclkdlfaaDoorW.PrintWords Go.Proofs.YteniakfclkdlfaaDoor.U Go.Proofs.YteniakfclkdlfaaDoor.Idx
structure LineT where
  inner : Bool
  text : Txt
  num : Nat
deriving DecidableEq
def opened (i : Nat) (s : Txt) : Option LineT → LineT
  | some o => { o with text := o.text ++ trimL 32 s }
  | none => ⟨s.head? == some 32, s, i + 1⟩
def linesGo (total : Nat) : List Txt → Nat → List LineT → Option LineT → Except Nat (List LineT)
  | [], _, out, _ => .ok out
  | s :: rest, i, out, op =>
    if okL s = false then .error (i + 1) else
    if op = none ∧ emptyL s = true then linesGo total rest (i + 1) out none else
    if oddL s = true then (if i + 1 = total then .error (i + 1) else linesGo total rest (i + 1) out (some { opened i s op with text := (opened i s op).text.dropLast }))
    else linesGo total rest (i + 1) (out ++ [{ opened i s op with text := trimmedL (opened i s op).text }]) none
def resL : Except Nat (List LineT) → List LineT × Nat × Int
  | .ok out => (out, 0, 0)
  | .error n => ([], n, 10)
def linesL (text : Txt) : List LineT × Nat × Int :=
  if 16384 < text.length then ([], 0, 3) else resL (linesGo (spl 10 text).length (spl 10 text) 0 [] none)
theorem odd_last (l : Txt) (h : oddL l = true) : ∃ p, l = p ++ [36] := by
  rcases List.eq_nil_or_concat l with rfl | ⟨p, b, rfl⟩
  · exact absurd h (by decide)
  · by_cases hb : b = 36
    · subst hb; exact ⟨p, by simp⟩
    · have : trimR 36 (p ++ [b]) = p ++ [b] := by
        have hb' : (b == 36) = false := by rw [beq_eq_false_iff_ne]; exact hb
        simp [trimR, Lib.trimRightB, List.dropWhile_cons, hb']
      rw [List.concat_eq_append, oddL, this] at h
      simp at h
theorem trimL_snoc (p : Txt) : ∃ q, trimL 32 (p ++ [36]) = q ++ [36] := by
  induction p with
  | nil => exact ⟨[], by decide⟩
  | cons b p ih =>
    by_cases hb : b = 32
    · subst hb
      obtain ⟨q, hq⟩ := ih
      refine ⟨q, ?_⟩
      rw [← hq]
      simp [trimL, Lib.trimLeftB, List.dropWhile_cons]
    · have hb' : (b == 32) = false := by rw [beq_eq_false_iff_ne]; exact hb
      exact ⟨b :: p, by simp [trimL, Lib.trimLeftB, List.dropWhile_cons, hb']⟩
theorem opened_ne (i : Nat) (s : Txt) (op : Option LineT) (h : oddL s = true) : (opened i s op).text ≠ [] := by
  obtain ⟨p, rfl⟩ := odd_last s h
  cases op with
  | none => simp [opened]
  | some o =>
    obtain ⟨q, hq⟩ := trimL_snoc p
    simp [opened, hq]
example : linesL [97, 36, 10, 32, 98, 10, 35, 10, 32, 99, 32] = ([⟨false, [97, 98], 1⟩, ⟨true, [99], 4⟩], 0, 0) := by decide +kernel
end Go.Proofs.YteniakfclkdlfaaDoor.Ln
end
section
set_option linter.unusedSimpArgs false
set_option linter.unusedVariables false
namespace Go.Proofs.YteniakfclkdlfaaDoor.Lex
open Go.RowKit Go.Proofs.YteniakfclkdlfaaDoorW.PrintWords Go.Proofs.YteniakfclkdlfaaDoor.U
def flushL (w : List UInt8) : List (List UInt8) := if w = [] then [] else [w]
def signL : List UInt8 → List UInt8
  | [] => []
  | [c] => if c = 124 ∨ c = 58 then [c] else []
  | c :: d :: _ => if c = 124 then (if d = 124 then [124, 124] else [124]) else if c = 58 then [58] else []
def wordsGo : List UInt8 → List UInt8 → List (List UInt8)
  | [], w => flushL w
  | [c], w => if c = 124 ∨ c = 58 then flushL w ++ [[c]] else if c = 32 then flushL w else [w ++ [c]]
  | c :: d :: r, w =>
    if c = 36 then wordsGo r (w ++ [36, d])
    else if c = 124 then (if d = 124 then flushL w ++ [124, 124] :: wordsGo r [] else flushL w ++ [124] :: wordsGo (d :: r) [])
    else if c = 58 then flushL w ++ [58] :: wordsGo (d :: r) []
    else if c = 32 then flushL w ++ wordsGo (d :: r) []
    else wordsGo (d :: r) (w ++ [c])
def words (s : List UInt8) : List (List UInt8) := wordsGo s []
theorem go_pair (d : UInt8) (r w : List UInt8) : wordsGo (36 :: d :: r) w = wordsGo r (w ++ [36, d]) := by rw [wordsGo]; simp
theorem go_bars (r w : List UInt8) : wordsGo (124 :: 124 :: r) w = flushL w ++ [124, 124] :: wordsGo r [] := by rw [wordsGo]; simp
theorem go_bar (r w : List UInt8) (h : ∀ x, r ≠ 124 :: x) : wordsGo (124 :: r) w = flushL w ++ [124] :: wordsGo r [] := by
  cases r with
  | nil => simp [wordsGo, flushL]
  | cons d r => rw [wordsGo]; simp; intro h1; exact absurd (h1 ▸ rfl) (h r)
theorem go_colon (r w : List UInt8) : wordsGo (58 :: r) w = flushL w ++ [58] :: wordsGo r [] := by
  cases r with
  | nil => simp [wordsGo, flushL]
  | cons d r => rw [wordsGo]; simp
theorem go_blank (r w : List UInt8) : wordsGo (32 :: r) w = flushL w ++ wordsGo r [] := by
  cases r with
  | nil => simp [wordsGo, flushL]
  | cons d r => rw [wordsGo]; simp
theorem sign_step (c : UInt8) (s w : List UInt8) (h : signL (c :: s) ≠ []) : ∃ rest, c :: s = signL (c :: s) ++ rest ∧ wordsGo (c :: s) w = flushL w ++ signL (c :: s) :: wordsGo rest [] ∧ c ≠ 36 := by
  cases s with
  | nil =>
    by_cases hc : c = 124 ∨ c = 58
    · refine ⟨[], by simp [signL, hc], ?_, ?_⟩
      · simp [wordsGo, signL, hc, flushL]
      · rcases hc with rfl | rfl <;> decide
    · simp [signL, hc] at h
  | cons d r =>
    by_cases h1 : c = 124
    · subst h1
      by_cases h2 : d = 124
      · subst h2; exact ⟨r, by simp [signL], by simp [signL, go_bars], by decide⟩
      · exact ⟨d :: r, by simp [signL, h2], by rw [go_bar _ _ (by intro x e; simp at e; exact h2 e.1)]; simp [signL, h2], by decide⟩
    · by_cases h2 : c = 58
      · subst h2; exact ⟨d :: r, by simp [signL], by rw [go_colon]; simp [signL], by decide⟩
      · simp [signL, h1, h2] at h
theorem sign_none (c : UInt8) (s : List UInt8) (h : signL (c :: s) = []) : c ≠ 124 ∧ c ≠ 58 := by
  cases s with
  | nil =>
    by_cases hc : c = 124 ∨ c = 58
    · simp [signL, hc] at h
    · exact ⟨fun e => hc (.inl e), fun e => hc (.inr e)⟩
  | cons d r =>
    constructor
    · rintro rfl; by_cases h2 : d = 124 <;> simp [signL, h2] at h
    · rintro rfl; simp [signL] at h
theorem flush_snoc (w : List UInt8) (c : UInt8) : flushL (w ++ [c]) = [w ++ [c]] := by simp [flushL]
theorem go_plain (c : UInt8) (r w : List UInt8) (h1 : c ≠ 36 ∨ r = []) (h2 : c ≠ 124) (h3 : c ≠ 58) (h4 : c ≠ 32) : wordsGo (c :: r) w = wordsGo r (w ++ [c]) := by
  cases r with
  | nil => simp [wordsGo, h2, h3, h4, flush_snoc]
  | cons d r =>
    rcases h1 with h1 | h1
    · rw [wordsGo]; simp [h1, h2, h3, h4]
    · cases h1
theorem flush_len (w : List UInt8) : (flushL w).length ≤ w.length := by
  unfold flushL; split
  · simp
  · rename_i h; have := List.length_pos_iff.2 h; simp; omega
theorem go_len (n : Nat) : ∀ (s w : List UInt8), s.length ≤ n → (wordsGo s w).length ≤ s.length + w.length := by
  induction n with
  | zero =>
    intro s w h
    obtain rfl : s = [] := List.length_eq_zero_iff.1 (by omega)
    simpa [wordsGo] using flush_len w
  | succ n ih =>
    intro s w h
    have hf := flush_len w
    match s, h with
    | [], _ => simpa [wordsGo] using hf
    | [c], _ => rw [wordsGo]; split
                · simp; omega
                · split
                  · simp; omega
                  · simp
    | c :: d :: r, h =>
      simp only [List.length_cons] at h
      have i1 := ih r (w ++ [36, d]) (by omega)
      have i2 := ih r [] (by omega)
      have i3 := ih (d :: r) [] (by simp; omega)
      have i4 := ih (d :: r) (w ++ [c]) (by simp; omega)
      simp at i1 i2 i3 i4
      rw [wordsGo]; split
      · simp; omega
      · split
        · split <;> simp <;> omega
        · split
          · simp; omega
          · split
            · simp; omega
            · simp; omega
theorem words_len (s : List UInt8) : (words s).length ≤ s.length := by simpa [words] using go_len _ s [] (Nat.le_refl _)
def total (l : List (List UInt8)) : Nat := (l.map List.length).sum
theorem total_append (a b : List (List UInt8)) : total (a ++ b) = total a + total b := by simp [total]
theorem total_cons (a : List UInt8) (b : List (List UInt8)) : total (a :: b) = a.length + total b := by simp [total]
theorem total_flush (w : List UInt8) : total (flushL w) ≤ w.length := by unfold flushL; split <;> simp [total]
theorem go_total (n : Nat) : ∀ (s w : List UInt8), s.length ≤ n → total (wordsGo s w) ≤ s.length + w.length := by
  induction n with
  | zero =>
    intro s w h
    obtain rfl : s = [] := List.length_eq_zero_iff.1 (by omega)
    simpa [wordsGo] using total_flush w
  | succ n ih =>
    intro s w h
    have hf := total_flush w
    match s, h with
    | [], _ => simpa [wordsGo] using hf
    | [c], _ => rw [wordsGo]; split
                · simp [total_append, total_cons, total] at hf ⊢; omega
                · split
                  · simp; omega
                  · simp [total]; omega
    | c :: d :: r, h =>
      simp only [List.length_cons] at h
      have i1 := ih r (w ++ [36, d]) (by omega)
      have i2 := ih r [] (by omega)
      have i3 := ih (d :: r) [] (by simp; omega)
      have i4 := ih (d :: r) (w ++ [c]) (by simp; omega)
      simp at i1 i2 i3 i4
      rw [wordsGo]; split
      · simp; omega
      · split
        · split <;> simp [total_append, total_cons] <;> omega
        · split
          · simp [total_append, total_cons]; omega
          · split
            · simp [total_append]; omega
            · simp; omega
theorem words_total (s : List UInt8) : total (words s) ≤ s.length := by simpa [words] using go_total _ s [] (Nat.le_refl _)
inductive Chunks : List UInt8 → Prop
  | nil : Chunks []
  | pair (d : UInt8) {w : List UInt8} : Chunks w → Chunks (36 :: d :: w)
  | one (c : UInt8) {w : List UInt8} : c ≠ 36 → c ≠ 124 → c ≠ 58 → c ≠ 32 → Chunks w → Chunks (c :: w)
theorem Chunks.append {a b : List UInt8} (h : Chunks a) (k : Chunks b) : Chunks (a ++ b) := by
  induction h with
  | nil => exact k
  | pair d _ ih => exact .pair d ih
  | one c h1 h2 h3 h4 _ ih => exact .one c h1 h2 h3 h4 ih
theorem Chunks.go {w : List UInt8} (h : Chunks w) : ∀ (r v : List UInt8), wordsGo (w ++ r) v = wordsGo r (v ++ w) := by
  induction h with
  | nil => intro r v; simp
  | pair d _ ih => intro r v; rw [List.cons_append, List.cons_append, go_pair, ih]; simp
  | one c h1 h2 h3 h4 _ ih => intro r v; rw [List.cons_append, go_plain c _ _ (.inl h1) h2 h3 h4, ih]; simp
end Go.Proofs.YteniakfclkdlfaaDoor.Lex
end
section
set_option linter.unusedSimpArgs false
set_option linter.unusedVariables false
namespace Go.Proofs.YteniakfclkdlfaaDoor.Rng
open Go.RowKit Go.Shelf
variable {P : Program}
def Kept3 (b : Nat) (W W' : World) : Prop := W'.heap[b]? = W.heap[b]? ∧ W'.heap[b + 1]? = W.heap[b + 1]? ∧ W'.heap[b + 2]? = W.heap[b + 2]?
theorem Kept3.refl (b : Nat) (W : World) : Kept3 b W W := ⟨rfl, rfl, rfl⟩
theorem Kept3.trans {b : Nat} {A B C : World} (h : Kept3 b A B) (k : Kept3 b B C) : Kept3 b A C := ⟨k.1.trans h.1, k.2.1.trans h.2.1, k.2.2.trans h.2.2⟩
theorem Kept3.putObj {b l : Nat} (W : World) (o : Obj) (h : b + 2 < l) : Kept3 b W (W.putObj l o) :=
  ⟨World.putObj_heap_other (by omega), World.putObj_heap_other (by omega), World.putObj_heap_other (by omega)⟩
def SeqOf (P : Program) (gf : Nat) (lb : Array Value) (b : Nat) (xs : List ByteArray) (w : World) : Prop :=
  ∀ (l : Nat) (J Jx : List ByteArray → World → Prop) (W : World), Below w.heap.size w W →
    (∀ pre W1 u, J pre W1 → J pre (W1.setCell ⟨b, 0, none⟩ u)) →
    (∀ pre x W1, J pre W1 → (pre ++ [x]) <+: xs → YieldAt Fence.wide 1 P l #[.string x] W1 fun e W' =>
      (e = .returned (.bool true) ∧ J (pre ++ [x]) W' ∧ Kept3 b W1 W') ∨ (e = .returned (.bool false) ∧ Jx (pre ++ [x]) W')) →
    J [] W →
    CallsIn Fence.wide 2 P gf (#[.func (.yield l) #[] #[]] ++ lb) W fun e W' => (∃ v, e = .returned v) ∧ (J xs W' ∨ ∃ pre, pre <+: xs ∧ Jx pre W')
theorem wp_range_str {g : Operand} {p : Tmp} {assign body : Code} {Q : Exit → Act → World → Prop} {a : Act} {w : World} {gf : Nat} {lb : Array Value} {b : Nat} {xs : List ByteArray} {w0 : World}
    (hg : a.eval g = .func (.func gf) #[] lb) (eg : ∀ args w, (callFunc gf args).run P w = .ok (.enter gf args) w)
    (hseq : SeqOf P gf lb b xs w0) (hb0 : Below w0.heap.size w0 w) (hbw : b + 2 < w.heap.size)
    (I : List ByteArray → World → Prop) (Ix : Code → List ByteArray → World → Prop) (hI : OwnFrom w.heap.size I) (hIx : ∀ c, OwnFrom w.heap.size (Ix c))
    (hIs : ∀ pre W u, I pre W → I pre (W.setCell ⟨b, 0, none⟩ u)) (h0 : I [] w) (a₁ : ByteArray → Act)
    (hassign : ∀ (l : Nat) (x : ByteArray) (W : World) (K : Act → World → Prop), K (a₁ x) W →
      assign.wpIn (Fence.wide.inRound l) 1 P (Exit.then K (fun _ _ _ => False)) { tmps := (#[p].zip #[Value.string x]).foldl (fun t (p, v) => t.setIfInBounds p v) a.tmps, defers := [] } W)
    (hbody : ∀ (l : Nat) (pre : List ByteArray) (x : ByteArray) (W : World), I pre W → (pre ++ [x]) <+: xs → body.wpIn (Fence.wide.inRound l) 1 P (ownPostG w.heap.size (Kept3 b) I Ix (pre ++ [x]) W) (a₁ x) W)
    (hdone : ∀ (D : Nat) (W : World), w.heap.size ≤ D → I xs W → W.heap[D]? = some (.deferred (some [])) → Q .normal { a with defers := { target := .collected D, args := #[] } :: a.defers } W)
    (hstop : ∀ (D : Nat) (c : Code) (pre : List ByteArray) (W : World), w.heap.size ≤ D → pre <+: xs → Ix c pre W → W.heap[D]? = some (.deferred (some [])) → c.wpIn Fence.wide 3 P Q { a with defers := { target := .collected D, args := #[] } :: a.defers } W) :
    (Code.rangeFunc g #[p] assign body).wpIn Fence.wide 3 P Q a w := by
  refine wpIn_rangeFunc ?_
  intro fn hfn
  obtain ⟨rec, hrec⟩ : ∃ rec : LoopState → Option Code → Loop, rec = fun st pe => { state := st, pending := pe, fn, tmps := a.tmps, params := #[p], assign, body, defers := w.heap.size } := ⟨_, rfl⟩
  obtain ⟨W1, hW1⟩ : ∃ W1, (w.alloc (.deferred (some []))).alloc (.loop (rec .ready none)) = W1 := ⟨_, rfl⟩
  have hL1 : W1.heap[w.heap.size + 1]? = some (.loop (rec .ready none)) := by
    rw [← hW1]; have := World.alloc_heap_new (w.alloc (.deferred (some []))) (.loop (rec .ready none)); rwa [World.size_alloc] at this
  have hD1 : W1.heap[w.heap.size]? = some (.deferred (some [])) := by
    rw [← hW1]; exact (Below.heap_alloc _ _ _ (by simp)).trans (World.alloc_heap_new w _)
  have hI1 : I [] W1 := by rw [← hW1]; exact hI.alloc _ (hI.alloc _ h0)
  have hb1 : Below w0.heap.size w0 W1 := by
    rw [← hW1]; exact hb0.trans ((((Below.refl _ w).alloc (Nat.le_refl _) _).alloc (by simp) _).mono hb0.size)
  refine ⟨w.heap.size + 1, [{ target := .collected w.heap.size, args := #[] }], W1, { target := .fn (.func gf) lb, args := #[.func (.yield (w.heap.size + 1)) #[] #[]] }, W1, gf,
    #[.func (.yield (w.heap.size + 1)) #[] #[]] ++ lb, W1, ?_, ?_, ?_, ?_, fun _ => by omega, ?_⟩
  · rw [← hW1, hrec]; exact run_enterLoop_outer _ _ _ _ _
  · simp only [resolve, hg]
    simp [go_sem]
  · intro f' hf'; trivial
  · simp [invoke, go_sem, eg]
  · refine (hseq (w.heap.size + 1)
      (fun pre W => I pre W ∧ W.heap[w.heap.size + 1]? = some (.loop (rec .ready none)) ∧ W.heap[w.heap.size]? = some (.deferred (some [])))
      (fun pre W => ∃ c, Ix c pre W ∧ W.heap[w.heap.size + 1]? = some (.loop (rec .done (some c))) ∧ W.heap[w.heap.size]? = some (.deferred (some [])))
      W1 hb1
      (fun pre W u hs => ⟨hIs pre W u hs.1, (KeepsOthers.setCell W _ u).same _ _ hs.2.1 rfl, (KeepsOthers.setCell W _ u).same _ _ hs.2.2 rfl⟩)
      ?_ ⟨hI1, hL1, hD1⟩).mono ?_
    · rintro pre x W ⟨hi, hl, hk⟩ hpx
      have hlt : w.heap.size + 1 < W.heap.size := (Array.getElem?_eq_some_iff.1 hl).1
      have hy := run_yield (P := P) (args := #[.string x]) hl (by rw [hrec]; rfl)
      rw [hrec] at hy
      refine ⟨fn, _, assign, body, hy, roundIn_of_wpIn hfn (hassign _ x W _ ⟨_, run_beginRound hl (by rw [hrec]), ?_⟩)⟩
      obtain ⟨W2, hW2⟩ : ∃ W2, W.putObj (w.heap.size + 1) (.loop { rec .ready none with state := .busy }) = W2 := ⟨_, rfl⟩
      have hl2 : W2.heap[w.heap.size + 1]? = some (.loop { rec .ready none with state := .busy }) := by rw [← hW2]; exact World.putObj_heap_same hlt
      have hk2 : W2.heap[w.heap.size]? = some (.deferred (some [])) := by rw [← hW2]; exact (World.putObj_heap_other (by omega)).trans hk
      have hs2 : Kept3 b W W2 := by rw [← hW2]; exact Kept3.putObj _ _ (by omega)
      have hi2 : I pre W2 := by rw [← hW2]; exact hI.putObj _ hi (by omega) hl rfl
      rw [hW2]
      refine wpIn_mono (hbody _ pre x _ hi2 hpx) ?_
      have fin : ∀ (jump : Option Code) (W3 : World), KeepsFrom w.heap.size W2 W3 →
          (Instr.endRound (w.heap.size + 1) jump).run P W3 = .ok (.bool jump.isNone) (W3.putObj (w.heap.size + 1) (.loop (rec (if jump.isNone then .ready else .done) jump))) ∧
          W3.heap[w.heap.size + 1]? = some (.loop { rec .ready none with state := .busy }) ∧
          (W3.putObj (w.heap.size + 1) (.loop (rec (if jump.isNone then .ready else .done) jump))).heap[w.heap.size + 1]? = some (.loop (rec (if jump.isNone then .ready else .done) jump)) ∧
          (W3.putObj (w.heap.size + 1) (.loop (rec (if jump.isNone then .ready else .done) jump))).heap[w.heap.size]? = some (.deferred (some [])) := fun jump W3 hk3 => by
        have hl3 := hk3.same _ _ (by omega) hl2 rfl
        have h := run_endRound (P := P) jump hl3
        rw [hrec] at h ⊢
        exact ⟨h, by rw [hrec] at hl3; exact hl3, World.putObj_heap_same (Array.getElem?_eq_some_iff.1 hl3).1, (World.putObj_heap_other (by omega)).trans (hk3.same _ _ (Nat.le_refl _) hk2 rfl)⟩
      have out : ∀ (c : Code) (W3 : World), KeepsFrom w.heap.size W2 W3 → Ix c (pre ++ [x]) W3 → ∃ c', Ix c' (pre ++ [x]) (W3.putObj (w.heap.size + 1) (.loop (rec .done (some c)))) ∧
          (W3.putObj (w.heap.size + 1) (.loop (rec .done (some c)))).heap[w.heap.size + 1]? = some (.loop (rec .done (some c'))) ∧ (W3.putObj (w.heap.size + 1) (.loop (rec .done (some c)))).heap[w.heap.size]? = some (.deferred (some [])) := fun c W3 hk3 hx3 => by
        obtain ⟨_, hl3, hl4, hk4⟩ := fin (some c) W3 hk3
        exact ⟨c, (hIx c).putObj _ hx3 (by omega) hl3 rfl, hl4, hk4⟩
      rintro e a3 W3 hp
      cases e with
      | normal =>
        obtain ⟨hk3, hkp3, hi3⟩ := hp
        obtain ⟨hr, hl3, hl4, hk4⟩ := fin none W3 hk3
        exact ⟨_, _, hr, .inl ⟨rfl, ⟨hI.putObj _ hi3 (by omega) hl3 rfl, hl4, hk4⟩, (hs2.trans hkp3).trans (Kept3.putObj _ _ (by omega))⟩⟩
      | ret => exact ⟨_, _, (fin (some .ret) W3 hp.1).1, .inr ⟨rfl, out .ret W3 hp.1 hp.2⟩⟩
      | exit id => exact ⟨_, _, (fin (some (.exit id)) W3 hp.1).1, .inr ⟨rfl, out (.exit id) W3 hp.1 hp.2⟩⟩
      | goto t => exact ⟨_, _, (fin (some (.goto t)) W3 hp.1).1, .inr ⟨rfl, out (.goto t) W3 hp.1 hp.2⟩⟩
      | panic ch => exact hp.elim
      | outgrown => exact hp.elim
    · rintro e W2 ⟨⟨v, rfl⟩, (⟨hi, hl, hk⟩ | ⟨pre, hSp, c, hi, hl, hk⟩)⟩
      · exact ⟨none, _, by have h := run_endLoop (P := P) hl (by rw [hrec]; simp); rw [hrec] at h; exact h, hdone _ _ (Nat.le_refl _) (hI.putObj _ hi (by omega) hl rfl) ((World.putObj_heap_other (by omega)).trans hk)⟩
      · exact ⟨some c, _, by have h := run_endLoop (P := P) hl (by rw [hrec]; simp); rw [hrec] at h; exact h, hstop _ c pre _ (Nat.le_refl _) hSp ((hIx c).putObj _ hi (by omega) hl rfl) ((World.putObj_heap_other (by omega)).trans hk)⟩
end Go.Proofs.YteniakfclkdlfaaDoor.Rng
end
section
set_option linter.unusedSimpArgs false
set_option linter.unusedVariables false
namespace Go.Proofs.YteniakfclkdlfaaDoor.P
open Go.RowKit Go.Shelf Go.Proofs.YteniakfclkdlfaaDoor.U Go.Proofs.YteniakfclkdlfaaDoor.Rng
def splitK (c : UInt8) (k : Nat) : List UInt8 → List (List UInt8)
  | [] => [[]]
  | b :: l => if b = c then [c].take k :: splitK c k l else match splitK c k l with
    | [] => [[b]]
    | p :: ps => (b :: p) :: ps
theorem splitK_ne (c : UInt8) (k : Nat) (l : List UInt8) : splitK c k l ≠ [] := by
  cases l with
  | nil => simp [splitK]
  | cons b l => unfold splitK; split
                · simp
                · split <;> simp
theorem splitK_none (c : UInt8) (k : Nat) (l : List UInt8) (h : c ∉ l) : splitK c k l = [l] := by
  induction l with
  | nil => rfl
  | cons b l ih =>
    have h1 : b ≠ c := fun e => h (by simp [e])
    rw [splitK, if_neg h1, ih (fun e => h (by simp [e]))]
theorem splitK_at (c : UInt8) (k : Nat) (a l : List UInt8) (h : c ∉ a) : splitK c k (a ++ c :: l) = (a ++ [c].take k) :: splitK c k l := by
  induction a with
  | nil => simp [splitK]
  | cons b a ih =>
    have h1 : b ≠ c := fun e => h (by simp [e])
    rw [List.cons_append, splitK, if_neg h1, ih (fun e => h (by simp [e]))]
    simp
theorem index_cases (l : List UInt8) (c : UInt8) : (Lib.indexByte l c = -1 ∧ c ∉ l) ∨ ∃ a r, l = a ++ c :: r ∧ c ∉ a ∧ Lib.indexByte l c = (a.length : Int) := by
  induction l with
  | nil => exact .inl ⟨rfl, by simp⟩
  | cons b l ih =>
    by_cases hb : b = c
    · exact .inr ⟨[], l, by simp [hb], by simp, by simp [Lib.indexByte, hb]⟩
    · rcases ih with ⟨h1, h2⟩ | ⟨a, r, rfl, h2, h3⟩
      · exact .inl ⟨by simp [Lib.indexByte, hb, h1], by simp [h2, Ne.symm hb]⟩
      · refine .inr ⟨b :: a, r, rfl, by simp [h2, Ne.symm hb], ?_⟩
        unfold Lib.indexByte
        rw [h3]
        have : ¬ ((a.length : Int) == -1) = true := by simp
        simp [hb]
attribute [local go_sem] Oper.semAt_some
set_option maxRecDepth 100000 in
set_option maxHeartbeats 4000000 in
theorem split_seq (c : UInt8) (k : Nat) (hk : k ≤ 1) (b : Nat) (s : List UInt8) (hs : s.length ≤ 1000000) (w : World) (hlt : b + 2 < w.heap.size)
    (hb0 : w.heap[b]? = some (.cells #[.string (B s)] 9 (0, 0))) (hb1 : w.heap[b + 1]? = some (.cells #[.string (B [c])] 9 (0, 0))) (hb2 : w.heap[b + 2]? = some (.cells #[.int .i64 (k : Int)] 3 (0, 0))) :
    SeqOf Tryd.prog 104 #[.pointer (some ⟨b + 1, 0, none⟩), .pointer (some ⟨b, 0, none⟩), .pointer (some ⟨b + 2, 0, none⟩)] b ((splitK c k s).map B) w := by
  intro l J Jx W hW hJs hY hJ0
  have HB0 : W.heap[b]? = some (.cells #[.string (B s)] 9 (0, 0)) := (hW.block _ (by omega)).trans hb0
  have HB1 : W.heap[b + 1]? = some (.cells #[.string (B [c])] 9 (0, 0)) := (hW.block _ (by omega)).trans hb1
  have HB2 : W.heap[b + 2]? = some (.cells #[.int .i64 (k : Int)] 3 (0, 0)) := (hW.block _ (by omega)).trans hb2
  clear hb0 hb1 hb2
  have c1 := cell_of_one HB1
  refine callsIn_of_wp Tryd.func104 rfl trivial ?_ rfl
  simp only [Tryd.ntmps104, List.size_toArray, List.length_cons, List.length_nil, Nat.reduceAdd, Nat.reduceSub, Array.replicate_succ, Array.replicate_zero, List.push_toArray, List.append_toArray, List.nil_append, List.cons_append]
  gi_wp2_with fail
  gi_loopg [] (s.length + 1) (fun gk wr => ∃ (pre : List ByteArray) (r : List UInt8), (splitK c k s).map B = pre ++ (splitK c k r).map B ∧ r.length < gk ∧ r.length ≤ 1000000 ∧
    Hid (wr.heap[b]? = some (.cells #[.string (B r)] 9 (0, 0))) ∧ Hid (wr.heap[b + 1]? = some (.cells #[.string (B [c])] 9 (0, 0))) ∧ Hid (wr.heap[b + 2]? = some (.cells #[.int .i64 (k : Int)] 3 (0, 0))) ∧ Hid (J pre wr))
  case atStart => exact ⟨[], s, rfl, by omega, hs, HB0, HB1, HB2, hJ0⟩
  case round =>
    clear c1
    obtain ⟨pre, r, hx, hgk, hr, h0, h1, h2, hj⟩ := hrel
    have c0 := cell_of_one h0.out
    have c1 := cell_of_one h1.out
    have c2 := cell_of_one h2.out
    have f0 := free_of_one h0.out
    have HX := Lib.hid hx
    clear hx
    rcases index_cases r c with ⟨hi, hn⟩ | ⟨a, r', hr', hn, hi⟩
    · have HC : Hid (∀ W, CallsIn Fence.wide 1 Tryd.prog 64 #[.string (B r), .string (B [c])] W fun e w' => e = .returned (.int .i64 (-1)) ∧ W = w') := fun W => by
        have h := Tryd.strings_Index_one (B r) c W
        rw [data_B, hi] at h
        exact callsIn_wide.2 (h.mono fun e w' ⟨he, hw⟩ => ⟨he, hw.symm⟩)
      clear hi
      obtain ⟨fn, tmps, assign, body, hy, hR⟩ := hY pre (B r) wr hj.out (by rw [HX.out, splitK_none c k r hn]; simp)
      gi_wp2_with fail
      refine ⟨trivial, (HC.out _).mono ?_⟩
      rintro e w' ⟨rfl, rfl⟩
      gi_wp2_with fail
      refine hR.mono ?_
      rintro e W3 (⟨rfl, hJ3, hk3⟩ | ⟨rfl, hJx3⟩)
      · gi_wp2_with fail
        go_end0
        exact ⟨⟨_, rfl⟩, .inl (by rw [HX.out, splitK_none c k r hn]; exact hJ3)⟩
      · gi_wp2_with fail
        go_end0
        exact ⟨⟨_, rfl⟩, .inr ⟨_, by rw [HX.out, splitK_none c k r hn]; simp, hJx3⟩⟩
    · have HC : Hid (∀ W, CallsIn Fence.wide 1 Tryd.prog 64 #[.string (B r), .string (B [c])] W fun e w' => e = .returned (.int .i64 (a.length : Int)) ∧ W = w') := fun W => by
        have h := Tryd.strings_Index_one (B r) c W
        rw [data_B, hi] at h
        exact callsIn_wide.2 (h.mono fun e w' ⟨he, hw⟩ => ⟨he, hw.symm⟩)
      clear hi
      have hlen : r.length = a.length + 1 + r'.length := by rw [hr']; simp; omega
      have hsz : (B r).size = a.length + 1 + r'.length := by rw [size_B, hlen]
      have ha1 : (a.length : Int) + (k : Int) ≤ (a.length : Int) + 1 + (r'.length : Int) := by omega
      have E1 : Hid ((B r).extract 0 (a.length + k) = B (a ++ [c].take k)) := by
        show (B r).extract 0 (a.length + k) = B (a ++ [c].take k)
        rw [extract_B, hr', List.drop_zero, List.take_append, List.take_of_length_le (by omega)]
        have : (c :: r').take (a.length + k - a.length) = [c].take k := by
          rw [Nat.add_sub_cancel_left]
          match k, hk with
          | 0, _ => rfl
          | 1, _ => rfl
        rw [this]
      have E2 : Hid ((B r).extract (a.length + 1) (a.length + 1 + r'.length) = B r') := by
        show (B r).extract (a.length + 1) (a.length + 1 + r'.length) = B r'
        rw [extract_B, List.take_of_length_le (by omega), hr', List.drop_append]
        simp
      have HS : Hid (splitK c k r = (a ++ [c].take k) :: splitK c k r') := by
        show splitK c k r = _
        rw [hr', splitK_at c k a r' hn]
      obtain ⟨fn, tmps, assign, body, hy, hR⟩ := hY pre (B (a ++ [c].take k)) wr hj.out (by rw [HX.out, HS.out]; simp)
      have hr3 : r'.length ≤ 1000000 := by omega
      have hr4 : a.length ≤ 1000000 := by omega
      clear hr'
      gi_wp2_with fail
      refine ⟨trivial, (HC.out _).mono ?_⟩
      rintro e w' ⟨rfl, rfl⟩
      rw [← E1.out] at hy
      gi_wp2_with fail
      refine hR.mono ?_
      rintro e W3 (⟨rfl, hJ3, hk3⟩ | ⟨rfl, hJx3⟩)
      · have g0 := Lib.hid (hk3.1.trans h0.out)
        have g1 := Lib.hid (hk3.2.1.trans h1.out)
        have g2 := Lib.hid (hk3.2.2.trans h2.out)
        have d0 := cell_of_one g0.out
        have d1 := cell_of_one g1.out
        have e0 := free_of_one g0.out
        have J3 := Lib.hid hJ3
        obtain ⟨g', rfl⟩ : ∃ g', gk = g' + 1 := ⟨gk - 1, by omega⟩
        clear hk3 hJ3 c0 c1 c2 f0 hy hR
        gi_wp2_with fail
        gi_roundg g'
        case measure => omega
        case rel =>
          rw [E2.out]
          refine ⟨pre ++ [B (a ++ [c].take k)], r', ?_, by omega, hr3, one_setCell g0.out, ?_, ?_, hJs _ _ _ J3.out⟩
          · rw [HX.out, HS.out]; simp
          · exact (Below.heap_setCell _ _ _ _ (by show b + 1 ≠ b; omega)).trans g1.out
          · exact (Below.heap_setCell _ _ _ _ (by show b + 2 ≠ b; omega)).trans g2.out
      · gi_wp2_with fail
        refine bodyPost_ret (results_none rfl _ _ _) rfl ?_
        exact ⟨⟨_, rfl⟩, .inr ⟨_, by rw [HX.out, HS.out]; simp, hJx3⟩⟩
end Go.Proofs.YteniakfclkdlfaaDoor.P
end
section
set_option linter.unusedSimpArgs false
set_option linter.unusedVariables false
namespace Go.Proofs.YteniakfclkdlfaaDoor.P
open Go.RowKit Go.Lib Go.Proofs.YteniakfclkdlfaaDoorW.PrintWords Go.Proofs.YteniakfclkdlfaaDoor.U
abbrev signs : ByteArray := ⟨#[46, 95, 45, 43, 47]⟩
theorem indexByte_no (l : List UInt8) (c : UInt8) (h : c ∉ l) : Lib.indexByte l c = -1 := by
  induction l with
  | nil => rfl
  | cons b l ih =>
    have h1 : b ≠ c := fun e => h (by simp [e])
    have h2 := ih (fun e => h (by simp [e]))
    unfold Lib.indexByte
    simp [h1, h2]
theorem ib_none (s : ByteArray) (b : Nat) (hs : ∀ x ∈ s.data.toList, x.toNat < 128) (h1 : 128 ≤ b) (h2 : b < 256) (w : World) :
    Calls Tryd.prog 101 #[.string s, .int .u8 (b : Int)] w fun e w' => e = .returned (.int .i64 (-1)) ∧ w' = w := by
  have h := Tryd.strings_IndexByte s (b : Int) w
  rw [indexByte_no] at h
  · exact h
  · intro hm
    have := hs _ hm
    simp at this
    rw [Nat.mod_eq_of_lt h2] at this
    omega
theorem signs_tail (a b : Nat) : ∀ x ∈ (signs.extract a b).data.toList, x.toNat < 128 := by
  intro x hx
  have := mem_extract hx
  simp at this
  rcases this with rfl | rfl | rfl | rfl | rfl <;> decide
theorem last_byte_of (rs : ByteArray) (k : Nat) (hk : rs.size = k + 1) (q : ∀ h : rs.size - 1 < rs.size, 128 ≤ (rs[rs.size - 1]'h).toNat) :
    ∃ b : Nat, 128 ≤ b ∧ b < 256 ∧ ∀ h : k < rs.size, ((rs[k]'h).toNat : Int) = (b : Int) := by
  have q4 := q (by omega)
  simp only [hk, Nat.add_sub_cancel] at q4
  exact ⟨(rs[k]'(by omega)).toNat, q4, UInt8.toNat_lt _, fun _ => rfl⟩
set_option maxRecDepth 1000000 in
set_option maxHeartbeats 4000000 in
theorem indexRune_valid (r : Nat) (h0 : 128 ≤ r) (h1 : r ≤ 1114111) (hE : r ≠ 65533) (hv : Lib.validRune (r : Int) = true) (w : World) :
    Calls Tryd.prog 89 #[.string signs, .int .i32 (r : Int)] w fun e w' => e = .returned (.int .i64 (-1)) ∧ Below w.heap.size w w' := by
  have hE' : ((r : Int) == 65533) = false := by rw [beq_eq_false_iff_ne]; omega
  have hlt : decide ((r : Int) < 128) = false := by simp; omega
  obtain ⟨q1, q2, q3⟩ := encode_facts (r : Int) (by rw [validRune_eq]; exact hv) (by omega)
  generalize hrs : Utf8.encode (r : Int) = rs at q1 q2 q3
  have hz : rs.size = 2 ∨ rs.size = 3 ∨ rs.size = 4 := by omega
  clear q1 q2
  rcases hz with hz | hz | hz
  · obtain ⟨b, hb1, hb3, hb2⟩ := last_byte_of rs 1 hz q3
    have hne : ((95 : Int) != (b : Int)) = true := by rw [bne_iff_ne]; omega
    clear q3
    have s1 : IntKind.i64.wrap (1 + 1) = 2 := by rfl
    have hsg : ∀ h : 1 < signs.size, ((signs[1]'h).toNat : Int) = 95 := fun _ => rfl
    have HS := Lib.hid (signs_tail 2 5)
    go_enter Tryd.func89, Tryd.ntmps89
    go_wp2_with (first | (go_at_call 102; refine (Tryd.utf8_ValidRune _ _).mono ?_; rintro e w' ⟨rfl, rfl⟩))
    go_step3
    go_wp2_with fail
    refine wp_loop_rounds 1 ?_
    rw [rounds_succ]
    go_wp2_with fail
    go_step3
    go_wp2_with fail
    go_quiet (fail)
    clear hrs hv hE hE' hlt
    go_wp2_with fail
    go_region_with (go_at_call 101; refine (ib_none _ b HS.out hb1 hb3 _).mono ?_; rintro e w2 ⟨rfl, rfl⟩)
    all_goals go_wp2_with fail
    all_goals (rw [Exit.noGoto_ret]; go_simp; go_ret; exact ⟨rfl, below_drewNg _ _⟩)
  · obtain ⟨b, hb1, hb3, hb2⟩ := last_byte_of rs 2 hz q3
    have hne : ((45 : Int) != (b : Int)) = true := by rw [bne_iff_ne]; omega
    clear q3
    have s1 : IntKind.i64.wrap (2 + 1) = 3 := by rfl
    have hsg : ∀ h : 2 < signs.size, ((signs[2]'h).toNat : Int) = 45 := fun _ => rfl
    have HS := Lib.hid (signs_tail 3 5)
    go_enter Tryd.func89, Tryd.ntmps89
    go_wp2_with (first | (go_at_call 102; refine (Tryd.utf8_ValidRune _ _).mono ?_; rintro e w' ⟨rfl, rfl⟩))
    go_step3
    go_wp2_with fail
    refine wp_loop_rounds 1 ?_
    rw [rounds_succ]
    go_wp2_with fail
    go_step3
    go_wp2_with fail
    go_quiet (fail)
    clear hrs hv hE hE' hlt
    go_wp2_with fail
    go_region_with (go_at_call 101; refine (ib_none _ b HS.out hb1 hb3 _).mono ?_; rintro e w2 ⟨rfl, rfl⟩)
    all_goals go_wp2_with fail
    all_goals (rw [Exit.noGoto_ret]; go_simp; go_ret; exact ⟨rfl, below_drewNg _ _⟩)
  · obtain ⟨b, hb1, hb3, hb2⟩ := last_byte_of rs 3 hz q3
    have hne : ((43 : Int) != (b : Int)) = true := by rw [bne_iff_ne]; omega
    clear q3
    have s1 : IntKind.i64.wrap (3 + 1) = 4 := by rfl
    have hsg : ∀ h : 3 < signs.size, ((signs[3]'h).toNat : Int) = 43 := fun _ => rfl
    have HS := Lib.hid (signs_tail 4 5)
    go_enter Tryd.func89, Tryd.ntmps89
    go_wp2_with (first | (go_at_call 102; refine (Tryd.utf8_ValidRune _ _).mono ?_; rintro e w' ⟨rfl, rfl⟩))
    go_step3
    go_wp2_with fail
    refine wp_loop_rounds 1 ?_
    rw [rounds_succ]
    go_wp2_with fail
    go_step3
    go_wp2_with fail
    go_quiet (fail)
    clear hrs hv hE hE' hlt
    go_wp2_with fail
    go_region_with (go_at_call 101; refine (ib_none _ b HS.out hb1 hb3 _).mono ?_; rintro e w2 ⟨rfl, rfl⟩)
    all_goals go_wp2_with fail
    all_goals (rw [Exit.noGoto_ret]; go_simp; go_ret; exact ⟨rfl, below_drewNg _ _⟩)
set_option maxRecDepth 1000000 in
set_option maxHeartbeats 4000000 in
theorem indexRune_invalid (r : Nat) (h0 : 128 ≤ r) (h1 : r ≤ 1114111) (hE : r ≠ 65533) (hv : Lib.validRune (r : Int) = false) (w : World) :
    Calls Tryd.prog 89 #[.string signs, .int .i32 (r : Int)] w fun e w' => e = .returned (.int .i64 (-1)) ∧ Below w.heap.size w w' := by
  have hE' : ((r : Int) == 65533) = false := by rw [beq_eq_false_iff_ne]; omega
  have hlt : decide ((r : Int) < 128) = false := by simp; omega
  go_enter Tryd.func89, Tryd.ntmps89
  go_wp2_with (first | (go_at_call 102; refine (Tryd.utf8_ValidRune _ _).mono ?_; rintro e w' ⟨rfl, rfl⟩))
  go_ret
  exact ⟨rfl, Below.refl _ _⟩
theorem decode_signs (pos : Nat) (h : pos < 5) : (Utf8.decode signs pos).1 ≠ 65533 ∧ (Utf8.decode signs pos).2 = 1 := by
  have : pos = 0 ∨ pos = 1 ∨ pos = 2 ∨ pos = 3 ∨ pos = 4 := by omega
  rcases this with rfl | rfl | rfl | rfl | rfl <;> exact ⟨by decide +kernel, by decide +kernel⟩
set_option maxRecDepth 1000000 in
set_option maxHeartbeats 4000000 in
theorem indexRune_error (w : World) :
    Calls Tryd.prog 89 #[.string signs, .int .i32 65533] w fun e w' => e = .returned (.int .i64 (-1)) ∧ Below w.heap.size w w' := by
  go_enter Tryd.func89, Tryd.ntmps89
  go_wp2
  go_loopg [] 5 (fun gf wx => ∃ pos : Nat, wx.heap[w.heap.size]? = some (.stringIter signs pos) ∧ Below w.heap.size w wx ∧ 5 ≤ pos + gf)
  case atStart => exact ⟨0, World.iter_heap w signs 0, (Below.refl _ w).alloc (Nat.le_refl _) _, by omega⟩
  case round =>
    obtain ⟨pos, hit, hbw, hfu⟩ := hrel
    by_cases hps : pos < signs.size
    · have hp5 : pos < 5 := hps
      obtain ⟨g', rfl⟩ : ∃ g', gk = g' + 1 := ⟨gk - 1, by omega⟩
      have hnx : ∀ ty, (Instr.next (.pointer (some ⟨w.heap.size, 0, none⟩)) true ty).run Tryd.prog wr = _ := fun ty => Lib.run_next_any_at wr w.heap.size signs pos ty hit hps
      obtain ⟨hd1, hd2⟩ := decode_signs pos hp5
      obtain ⟨R, hR⟩ : ∃ R, (Utf8.decode signs pos).1 = R := ⟨_, rfl⟩
      rw [hR] at hd1 hnx
      rw [hd2] at hnx
      have hit2 := Lib.iterAt_heap wr w.heap.size signs pos (pos + 1) hit
      have hbw2 := Lib.below_iterAt hbw (k := w.heap.size) (Nat.le_refl _) signs (pos + 1)
      obtain ⟨W, hWd⟩ : ∃ W, wr.iterAt w.heap.size signs (pos + 1) = W := ⟨_, rfl⟩
      rw [hWd] at hnx hit2 hbw2
      have hR3 : ((R : Int) == 65533) = false := by rw [beq_eq_false_iff_ne]; omega
      clear hR hd2 hWd hit hd1
      go_wp2
      go_roundg g'
      case measure => omega
      case rel => exact ⟨pos + 1, hit2, hbw2, by omega⟩
    · have hnx : ∀ ty, (Instr.next (.pointer (some ⟨w.heap.size, 0, none⟩)) true ty).run Tryd.prog wr = _ := fun ty => Lib.run_next_end_at wr w.heap.size signs pos ty hit (by omega)
      go_wp2
      go_ret
      exact ⟨rfl, hbw⟩
end Go.Proofs.YteniakfclkdlfaaDoor.P
end
section
set_option linter.unusedSimpArgs false
set_option linter.unusedVariables false
namespace Go.Proofs.YteniakfclkdlfaaDoor.P
open Go.RowKit Go.Lib Go.Proofs.YteniakfclkdlfaaDoorW.PrintWords Go.Proofs.YteniakfclkdlfaaDoor.U
def isSignR (c : Nat) : Bool := c == 46 || c == 95 || c == 45 || c == 43 || c == 47
def plainR (c : Nat) : Bool := (decide (97 ≤ c) && decide (c ≤ 122)) || (decide (65 ≤ c) && decide (c ≤ 90)) || (decide (48 ≤ c) && decide (c ≤ 57)) || isSignR c
theorem sign_ascii : ∀ c : Fin 128, decide (0 ≤ Lib.indexByte signs.data.toList ((c.val : Int).toNat.toUInt8)) = isSignR c.val := by decide +kernel
theorem sign_beyond (c : Nat) (h : 128 ≤ c) : isSignR c = false := by
  have h1 : ¬ c = 46 := by omega
  have h2 : ¬ c = 95 := by omega
  have h3 : ¬ c = 45 := by omega
  have h4 : ¬ c = 43 := by omega
  have h5 : ¬ c = 47 := by omega
  simp [isSignR, h1, h2, h3, h4, h5]
set_option maxRecDepth 100000 in
set_option maxHeartbeats 2000000 in
theorem containsRune_any (c : Nat) (h1 : c ≤ 1114111) (w : World) :
    Calls Tryd.prog 68 #[.string signs, .int .i32 (c : Int)] w fun e w' => e = .returned (.bool (isSignR c)) ∧ Below w.heap.size w w' := by
  by_cases hc : c < 128
  · have h := Tryd.strings_ContainsRune_ascii signs (c : Int) w (by omega) (by omega)
    have e := sign_ascii ⟨c, hc⟩
    simp only at e
    rw [e] at h
    exact h.mono fun e w' ⟨he, hw⟩ => ⟨he, hw ▸ Below.refl _ _⟩
  · have hI : Calls Tryd.prog 89 #[.string signs, .int .i32 (c : Int)] w fun e w' => e = .returned (.int .i64 (-1)) ∧ Below w.heap.size w w' := by
      by_cases hE : c = 65533
      · subst hE; exact indexRune_error w
      · by_cases hv : Lib.validRune (c : Int) = true
        · exact indexRune_valid c (by omega) h1 hE hv w
        · exact indexRune_invalid c (by omega) h1 hE (by simpa using hv) w
    have HI := Lib.hid hI
    clear hI
    rw [sign_beyond c (by omega)]
    go_enter Tryd.func68, Tryd.ntmps68
    go_wp2_with fail
    refine HI.out.mono ?_
    rintro e w' ⟨rfl, hb⟩
    go_wp2_with fail
    go_ret
    exact ⟨rfl, hb⟩
theorem not_sign_letter (c : Nat) (h : (97 ≤ c ∧ c ≤ 122) ∨ (65 ≤ c ∧ c ≤ 90) ∨ (48 ≤ c ∧ c ≤ 57)) : plainR c = true := by
  unfold plainR
  rcases h with ⟨a, b⟩ | ⟨a, b⟩ | ⟨a, b⟩ <;> simp [a, b]
theorem plain_other (c : Nat) (h : c < 48 ∨ (57 < c ∧ c < 65) ∨ (90 < c ∧ c < 97) ∨ 122 < c) : plainR c = isSignR c := by
  unfold plainR
  have h1 : ¬ (97 ≤ c ∧ c ≤ 122) := by omega
  have h2 : ¬ (65 ≤ c ∧ c ≤ 90) := by omega
  have h3 : ¬ (48 ≤ c ∧ c ≤ 57) := by omega
  have e1 : (decide (97 ≤ c) && decide (c ≤ 122)) = false := by rw [← Bool.decide_and]; simp only [decide_eq_false_iff_not]; exact h1
  have e2 : (decide (65 ≤ c) && decide (c ≤ 90)) = false := by rw [← Bool.decide_and]; simp only [decide_eq_false_iff_not]; exact h2
  have e3 : (decide (48 ≤ c) && decide (c ≤ 57)) = false := by rw [← Bool.decide_and]; simp only [decide_eq_false_iff_not]; exact h3
  simp [e1, e2, e3]
set_option maxRecDepth 100000 in
set_option maxHeartbeats 4000000 in
theorem plain_any (c : Nat) (h1 : c ≤ 1114111) (w : World) :
    Calls Tryd.prog 83 #[.int .i32 (c : Int)] w fun e w' => e = .returned (.bool (plainR c)) ∧ Below w.heap.size w w' := by
  rcases (show ((97 ≤ c ∧ c ≤ 122) ∨ (65 ≤ c ∧ c ≤ 90) ∨ (48 ≤ c ∧ c ≤ 57)) ∨ (c < 48 ∨ (57 < c ∧ c < 65) ∨ (90 < c ∧ c < 97) ∨ 122 < c) from by omega) with h | h
  · rw [not_sign_letter c h]
    rcases h with ⟨a, b⟩ | ⟨a, b⟩ | ⟨a, b⟩
    all_goals
      go_enter Tryd.func83, Tryd.ntmps83
      go_wp2_with fail
      go_ret
      exact ⟨rfl, Below.refl _ _⟩
  · have H := Lib.hid (plain_other c h)
    rcases h with a | ⟨a, b⟩ | ⟨a, b⟩ | a
    · go_enter Tryd.func83, Tryd.ntmps83
      go_wp2_with fail
      refine (containsRune_any c h1 _).mono ?_
      rintro e w' ⟨rfl, hb⟩
      go_wp2_with fail
      go_ret
      exact ⟨by rw [H.out]; rfl, hb⟩
    · have d57 : decide ((c : Int) ≤ 57) = false := by simp; omega
      go_enter Tryd.func83, Tryd.ntmps83
      go_wp2_with fail
      refine (containsRune_any c h1 _).mono ?_
      rintro e w' ⟨rfl, hb⟩
      go_wp2_with fail
      go_ret
      exact ⟨by rw [H.out]; rfl, hb⟩
    · have d57 : decide ((c : Int) ≤ 57) = false := by simp; omega
      have d90 : decide ((c : Int) ≤ 90) = false := by simp; omega
      go_enter Tryd.func83, Tryd.ntmps83
      go_wp2_with fail
      refine (containsRune_any c h1 _).mono ?_
      rintro e w' ⟨rfl, hb⟩
      go_wp2_with fail
      go_ret
      exact ⟨by rw [H.out]; rfl, hb⟩
    · have d57 : decide ((c : Int) ≤ 57) = false := by simp; omega
      have d90 : decide ((c : Int) ≤ 90) = false := by simp; omega
      have d122 : decide ((c : Int) ≤ 122) = false := by simp; omega
      go_enter Tryd.func83, Tryd.ntmps83
      go_wp2_with fail
      refine (containsRune_any c h1 _).mono ?_
      rintro e w' ⟨rfl, hb⟩
      go_wp2_with fail
      go_ret
      exact ⟨by rw [H.out]; rfl, hb⟩
theorem notplain_grows (w : World) : PredGrows Tryd.prog 82 #[] (fun c => !plainR c) w := by
  intro W x hx hb
  go_enter Tryd.func82, Tryd.ntmps82
  go_wp2_with fail
  refine (plain_any x hx _).mono ?_
  rintro e w' ⟨rfl, hb2⟩
  go_wp2_with fail
  go_ret
  exact ⟨rfl, hb2⟩
def plainB (b : UInt8) : Bool := plainR b.toNat
theorem plainR_beyond (c : Nat) (h : 128 ≤ c) : plainR c = false := by rw [plain_other c (by omega)]; exact sign_beyond c h
theorem decode_at (s : ByteArray) (pos : Nat) (h : pos < s.size) : ((s[pos]'h).toNat < 128 → Utf8.decode s pos = ((s[pos]'h).toNat, 1)) ∧ (128 ≤ (s[pos]'h).toNat → 128 ≤ (Utf8.decode s pos).1) := by
  have hg : (s.get! pos).toNat = (s[pos]'h).toNat := by
    have : s.get! pos = s[pos]'h := by
      show s.data[pos]! = s.data[pos]'h
      rw [getElem!_pos s.data pos h]
    rw [this]
  have hlt := (s[pos]'h).toNat_lt
  constructor
  · intro h1
    unfold Utf8.decode
    simp only [Nat.add_zero, hg]
    rw [if_pos h1]
  · intro h1
    unfold Utf8.decode
    simp only [Nat.add_zero, hg]
    rw [if_neg (by omega)]
    split
    · split
      · assumption
      · show 128 ≤ Utf8.runeError; decide
    · split
      · split
        · rename_i h2; simp only [Bool.and_eq_true, decide_eq_true_eq] at h2; omega
        · show 128 ≤ Utf8.runeError; decide
      · split
        · split
          · rename_i h2; simp only [Bool.and_eq_true, decide_eq_true_eq] at h2; omega
          · show 128 ≤ Utf8.runeError; decide
        · show 128 ≤ Utf8.runeError; decide
theorem plainB_ascii (b : UInt8) (h : plainB b = true) : b.toNat < 128 := by
  refine Nat.lt_of_not_le fun h2 => ?_
  rw [plainB, plainR_beyond _ h2] at h
  cases h
theorem idx_all (s : ByteArray) (f : Nat) : ∀ pos, (∀ j (h : j < s.size), pos ≤ j → plainB (s[j]'h) = true) → Lib.idxFuncFrom (fun c => !plainR c) true s f pos = -1 := by
  induction f with
  | zero => intro pos _; rfl
  | succ f ih =>
    intro pos h
    unfold Lib.idxFuncFrom
    by_cases hp : pos < s.size
    · have hb := h pos hp (Nat.le_refl _)
      have hd := (decode_at s pos hp).1 (plainB_ascii _ hb)
      rw [if_pos hp, hd, if_neg (by simp; exact hb)]
      exact ih (pos + 1) fun j hj hle => h j hj (by omega)
    · rw [if_neg hp]
theorem idx_some (s : ByteArray) (f : Nat) : ∀ pos, s.size ≤ pos + f → (∃ j, ∃ h : j < s.size, pos ≤ j ∧ plainB (s[j]'h) = false) → 0 ≤ Lib.idxFuncFrom (fun c => !plainR c) true s f pos := by
  induction f with
  | zero =>
    intro pos hf ⟨j, hj, h1, _⟩
    omega
  | succ f ih =>
    intro pos hf ⟨j, hj, h1, h2⟩
    have hp : pos < s.size := by omega
    unfold Lib.idxFuncFrom
    rw [if_pos hp]
    by_cases hr : plainR (Utf8.decode s pos).1 = true
    · have hlt : (s[pos]'hp).toNat < 128 := by
        refine Nat.lt_of_not_le fun h3 => ?_
        rw [plainR_beyond _ ((decode_at s pos hp).2 h3)] at hr
        cases hr
      have hd := (decode_at s pos hp).1 hlt
      rw [hd] at hr ⊢
      rw [if_neg (by simp; exact hr)]
      refine ih (pos + 1) (by omega) ⟨j, hj, ?_, h2⟩
      refine Nat.lt_of_le_of_ne h1 fun e => ?_
      subst e
      rw [plainB] at h2
      simp only at hr
      rw [hr] at h2
      cases h2
    · rw [if_pos (by simpa using hr)]
      omega
theorem idx_plain (l : List UInt8) : (l.all plainB = true → Lib.idxFunc (fun c => !plainR c) true (B l) = -1) ∧ (l.all plainB = false → 0 ≤ Lib.idxFunc (fun c => !plainR c) true (B l)) := by
  unfold Lib.idxFunc
  constructor
  · intro h
    refine idx_all (B l) _ 0 fun j hj _ => ?_
    have : (B l)[j]'hj ∈ l := by
      show l.toArray[j]'hj ∈ l
      simp
    exact List.all_eq_true.1 h _ this
  · intro h
    refine idx_some (B l) _ 0 (by omega) ?_
    obtain ⟨x, hx, hx2⟩ := List.all_eq_false.1 h
    obtain ⟨j, hj, rfl⟩ := List.getElem_of_mem hx
    exact ⟨j, by rw [size_B]; exact hj, Nat.zero_le _, (show plainB l[j] = false by simpa using hx2)⟩
end Go.Proofs.YteniakfclkdlfaaDoor.P
end
section
set_option linter.unusedSimpArgs false
set_option linter.unusedVariables false
namespace Go.Proofs.YteniakfclkdlfaaDoor.P
open Go.RowKit Go.Shelf Go.Proofs.YteniakfclkdlfaaDoorW.PrintWords Go.Proofs.YteniakfclkdlfaaDoor.U Go.Proofs.YteniakfclkdlfaaDoor.Rng
def foldP : List (List UInt8) → List (List UInt8) → Option (List (List UInt8))
  | [], ps => some ps
  | p :: r, ps => if p = [] ∨ p = [46] then foldP r ps else if p = [46, 46] then (if ps = [] then none else foldP r ps.dropLast) else foldP r (ps ++ [p])
def joinP (ps : List (List UInt8)) : List UInt8 := [47].intercalate ps
def cleanL (l : List UInt8) : List UInt8 × Int :=
  if 1000 < l.length then ([], 3) else if l.head? = some 47 ∨ l.all plainB = false then ([], 5) else
  match foldP (splitK 47 0 l) [] with
  | none => ([], 5)
  | some ps => if joinP ps = [] then ([], 5) else if 100 < (joinP ps).length then ([], 3) else (joinP ps, 0)
set_option maxRecDepth 100000 in
set_option maxHeartbeats 1000000 in
theorem SplitSeq_any (s sep : ByteArray) (w : World) :
    Calls Tryd.prog 84 #[.string s, .string sep] w fun e w' => e = .returned (.func (.func 104) #[] #[.pointer (some ⟨w.heap.size + 1, 0, none⟩), .pointer (some ⟨w.heap.size, 0, none⟩), .pointer (some ⟨w.heap.size + 2, 0, none⟩)]) ∧
      ((w.alloc (.cells #[.string s] 9)).alloc (.cells #[.string sep] 9)).alloc (.cells #[.int .i64 0] 3) = w' := by
  go_enter Tryd.func84, Tryd.ntmps84
  go_wp2
  go_ret
  exact ⟨rfl, rfl⟩
theorem hasPrefix_slash (l : List UInt8) : Lib.hasPrefix l [47] = decide (l.head? = some 47) := by
  cases l with
  | nil => rfl
  | cons b l =>
    rw [Bool.eq_iff_iff]
    simp [Lib.hasPrefix, List.isPrefixOf]
    exact eq_comm
set_option maxRecDepth 100000 in
set_option maxHeartbeats 2000000 in
theorem clean_long (l : List UInt8) (h : 1000 < l.length) (w : World) :
    Calls Tryd.prog 61 #[.string (B l)] w fun e w' => e = .returned (.tuple #[.string (B []), .int .i64 3]) ∧ Below w.heap.size w w' := by
  have hs : (B l).size = l.length := size_B l
  have h' : (1000 : Int) < (l.length : Int) := by omega
  go_enter Tryd.func61, Tryd.ntmps61
  go_wp2
  go_step3
  go_wp2
  rw [Exit.noGoto_ret]
  refine bodyPost_ret (v := .tuple #[.string (B []), .int .i64 3]) (by simp [results, Tryd.results61, go_sem]) rfl ⟨rfl, ?_⟩
  exact (((((Below.refl _ w).alloc (Nat.le_refl _) _).alloc (by simp) _)))
set_option maxRecDepth 100000 in
set_option maxHeartbeats 2000000 in
theorem clean_slash (l : List UInt8) (h : l.length ≤ 1000) (hb : l.head? = some 47) (w : World) :
    Calls Tryd.prog 61 #[.string (B l)] w fun e w' => e = .returned (.tuple #[.string (B []), .int .i64 5]) ∧ Below w.heap.size w w' := by
  have hs : (B l).size = l.length := size_B l
  have h' : (l.length : Int) ≤ 1000 := by omega
  have HP : Hid (∀ W, Calls Tryd.prog 75 #[.string (B l), .string ⟨#[47]⟩] W fun e w' => e = .returned (.bool true) ∧ W = w') := fun W => by
    have := Tryd.strings_HasPrefix (B l) ⟨#[47]⟩ W
    rw [data_B, hasPrefix_slash, hb] at this
    exact this.mono fun e w' ⟨he, hw⟩ => ⟨he, hw.symm⟩
  clear hb
  go_enter Tryd.func61, Tryd.ntmps61
  go_wp2
  go_step3
  go_wp2_with fail
  refine (HP.out _).mono ?_
  rintro e w' ⟨rfl, rfl⟩
  go_wp2_with fail
  rw [Exit.noGoto_ret]
  refine bodyPost_ret (v := .tuple #[.string (B []), .int .i64 5]) (by simp [results, Tryd.results61, go_sem]) rfl ⟨rfl, ?_⟩
  exact ((Below.refl _ w).alloc (Nat.le_refl _) _).alloc (by simp) _
theorem idx_calls (l : List UInt8) (n : Int) (h : Lib.idxFunc (fun c => !plainR c) true (B l) = n) (W : World) :
    Calls Tryd.prog 41 #[.string (B l), .func (.func 82) #[] #[]] W fun e w' => e = .returned (.int .i64 n) ∧ Below W.heap.size W w' := by
  have := Tryd.strings_IndexFunc_grows 82 #[] (enters_of Tryd.func82 (by kernel_rfl) rfl) (fun c => !plainR c) (B l) W (notplain_grows W)
  rw [h] at this
  exact this
set_option maxRecDepth 100000 in
set_option maxHeartbeats 2000000 in
theorem clean_bad (l : List UInt8) (h : l.length ≤ 1000) (hb : ¬ l.head? = some 47) (hp : l.all plainB = false) (w : World) :
    Calls Tryd.prog 61 #[.string (B l)] w fun e w' => e = .returned (.tuple #[.string (B []), .int .i64 5]) ∧ Below w.heap.size w w' := by
  have hs : (B l).size = l.length := size_B l
  have h' : (l.length : Int) ≤ 1000 := by omega
  have HP : Hid (∀ W, Calls Tryd.prog 75 #[.string (B l), .string ⟨#[47]⟩] W fun e w' => e = .returned (.bool false) ∧ W = w') := fun W => by
    have := Tryd.strings_HasPrefix (B l) ⟨#[47]⟩ W
    rw [data_B, hasPrefix_slash, decide_eq_false hb] at this
    exact this.mono fun e w' ⟨he, hw⟩ => ⟨he, hw.symm⟩
  obtain ⟨i, hi⟩ : ∃ i, Lib.idxFunc (fun c => !plainR c) true (B l) = i := ⟨_, rfl⟩
  have hi0 : 0 ≤ i := by rw [← hi]; exact (idx_plain l).2 hp
  have HI := Lib.hid (idx_calls l i hi)
  clear hb hp hi
  go_enter Tryd.func61, Tryd.ntmps61
  go_wp2
  go_step3
  go_wp2_with fail
  refine (HP.out _).mono ?_
  rintro e w' ⟨rfl, rfl⟩
  go_wp2_with fail
  refine (HI.out _).mono ?_
  rintro e w' ⟨rfl, hb⟩
  have b1 : w'.heap[w.heap.size]? = some (.cells #[.string (B [])] 9 (0, 0)) := (hb.block _ (by simp; omega)).trans ((Below.heap_alloc _ _ _ (by simp)).trans (heap_alloc_new w _))
  have b2 : w'.heap[w.heap.size + 1]? = some (.cells #[.int .i64 0] 26 (0, 0)) := (hb.block _ (by simp)).trans (by simpa using heap_alloc_new (w.alloc _) _)
  have c1 := cell_of_one b1
  have c2 := cell_of_one b2
  have f1 := free_of_one b1
  have f2 := free_of_one b2
  go_wp2_with fail
  rw [Exit.noGoto_ret]
  have b1' := one_setCell (u := .string (B [])) b1
  have b2' : (w'.setCell ⟨w.heap.size, 0, none⟩ (.string (B []))).heap[w.heap.size + 1]? = _ := (Below.heap_setCell w' ⟨w.heap.size, 0, none⟩ _ (w.heap.size + 1) (by show w.heap.size + 1 ≠ w.heap.size; omega)).trans b2
  have b2'' := one_setCell (u := .int .i64 5) b2'
  have b1'' := (Below.heap_setCell (w'.setCell ⟨w.heap.size, 0, none⟩ (.string (B []))) ⟨w.heap.size + 1, 0, none⟩ (.int .i64 5) w.heap.size (by show w.heap.size ≠ w.heap.size + 1; omega)).trans b1'
  have k1 := cell_of_one b1''
  have k2 := cell_of_one b2''
  refine bodyPost_ret (v := .tuple #[.string (B []), .int .i64 5]) (by simp [results, Tryd.results61, go_sem, k1, k2]) rfl ⟨rfl, ?_⟩
  exact (((((Below.refl _ w).alloc (Nat.le_refl _) _).alloc (by simp) _).trans (hb.mono (by simp; omega))).setCell (Nat.le_refl _) _).setCell (Nat.le_succ _) _
theorem SplitSeq_calls (l : List UInt8) (W : World) :
    Calls Tryd.prog 84 #[.string (B l), .string ⟨#[47]⟩] W fun e w' => e = .returned (.func (.func 104) #[] #[.pointer (some ⟨W.heap.size + 1, 0, none⟩), .pointer (some ⟨W.heap.size, 0, none⟩), .pointer (some ⟨W.heap.size + 2, 0, none⟩)]) ∧
      Below W.heap.size W w' ∧ W.heap.size + 2 < w'.heap.size ∧ w'.heap[W.heap.size]? = some (.cells #[.string (B l)] 9 (0, 0)) ∧ w'.heap[W.heap.size + 1]? = some (.cells #[.string (B [47])] 9 (0, 0)) ∧ w'.heap[W.heap.size + 2]? = some (.cells #[.int .i64 0] 3 (0, 0)) :=
  (SplitSeq_any (B l) ⟨#[47]⟩ W).mono fun e w' ⟨he, hw⟩ => by
    subst hw
    refine ⟨he, (((Below.refl _ W).alloc (Nat.le_refl _) _).alloc (by simp) _).alloc (by simp; omega) _, by simp, ?_, ?_, ?_⟩
    · exact (Below.heap_alloc _ _ _ (by simp; omega)).trans ((Below.heap_alloc _ _ _ (by simp)).trans (heap_alloc_new W _))
    · exact (Below.heap_alloc _ _ _ (by simp)).trans (by simpa using heap_alloc_new (W.alloc (.cells #[.string (B l)] 9)) (.cells #[.string (B [47])] 9))
    · simpa using heap_alloc_new ((W.alloc (.cells #[.string (B l)] 9)).alloc (.cells #[.string (B [47])] 9)) (.cells #[.int .i64 0] 3)
theorem foldP_append (a b ps : List (List UInt8)) : foldP (a ++ b) ps = (foldP a ps).bind (foldP b) := by
  induction a generalizing ps with
  | nil => rfl
  | cons p a ih =>
    rw [List.cons_append, foldP, foldP]
    split
    · exact ih ps
    · split
      · split
        · rfl
        · exact ih _
      · exact ih _
theorem foldP_none {a b c : List (List UInt8)} (h : a <+: b) (ha : foldP a c = none) : foldP b c = none := by
  obtain ⟨t, rfl⟩ := h
  rw [foldP_append, ha]; rfl
theorem map_snoc_prefix {pl q : List (List UInt8)} {x : ByteArray} (h : (pl.map B ++ [x]) <+: q.map B) : ∃ p, x = B p ∧ (pl ++ [p]) <+: q := by
  obtain ⟨t, ht⟩ := h
  have hlen : pl.length < q.length := by have := congrArg List.length ht; simp at this; omega
  have h1 : pl = q.take pl.length := by
    have := congrArg (List.take pl.length) ht
    rw [List.append_assoc, List.take_left' (by simp), ← List.map_take] at this
    exact (List.map_inj_right (fun _ _ e => B_inj e)).1 this
  have h2 : x = B q[pl.length] := by
    have := congrArg (fun z => z[pl.length]?) ht
    simp [List.getElem?_append, List.getElem?_eq_getElem hlen] at this
    exact this
  refine ⟨q[pl.length], h2, ?_⟩
  have : pl ++ [q[pl.length]] = q.take (pl.length + 1) := by
    rw [List.take_succ_eq_append_getElem hlen, ← h1]
  rw [this]
  exact List.take_prefix _ _
theorem foldP_len (a : List (List UInt8)) : ∀ ps qs, foldP a ps = some qs → qs.length ≤ ps.length + a.length := by
  induction a with
  | nil => intro ps qs h; simp [foldP] at h; subst h; simp
  | cons p a ih =>
    intro ps qs h
    rw [foldP] at h
    split at h
    · have := ih _ _ h; simp; omega
    · split at h
      · split at h
        · cases h
        · have := ih _ _ h; simp at this ⊢; omega
      · have := ih _ _ h; simp at this ⊢; omega
theorem splitK_len (c : UInt8) (k : Nat) (l : List UInt8) : (splitK c k l).length ≤ l.length + 1 := by
  induction l with
  | nil => simp [splitK]
  | cons b l ih =>
    rw [splitK]; split
    · simp; omega
    · split
      · simp
      · rename_i p ps he
        rw [he] at ih
        simp at ih ⊢; omega
structure CInv (N pb bs : Nat) (e : Int) (ps : List (List UInt8)) (W : World) : Prop where
  r1 : W.heap[N]? = some (.cells #[.string (B [])] 9 (0, 0))
  r2 : W.heap[N + 1]? = some (.cells #[.int .i64 e] 26 (0, 0))
  le : bs ≤ W.heap.size
  parts : ∃ v, W.heap[pb]? = some (.cells #[v] 23 (0, 0)) ∧ W.ownsRow bs 9 1 v ps.length (ps.map fun x => Value.string (B x))
theorem heap_keep {W W' : World} {row : Option Nat} {k : Nat} {cs : Array Value} {t : TypeId} (hg : W.grownBy W' row) (hr : ∀ r, row = some r → ∃ o : Obj, W.heap[r]? = some o ∧ o.isCells = false) (h : W.heap[k]? = some (.cells cs t (0, 0))) : W'.heap[k]? = some (.cells cs t (0, 0)) := by
  refine (hg.block k (lt_of_block h) fun e => ?_).trans h
  obtain ⟨o, ho, hc⟩ := hr k e.symm
  rw [h] at ho
  cases ho
  cases hc
theorem CInv.own (N pb bs : Nat) (e : Int) : Own (CInv N pb bs e) := fun ps A C row hs hg hr => by
  obtain ⟨h1, h2, hz, v, hv, ho⟩ := hs
  refine ⟨heap_keep hg hr h1, heap_keep hg hr h2, Nat.le_trans hz hg.size, v, heap_keep hg hr hv, ho.kept hg ?_⟩
  rcases ho.2 with ⟨rfl, _⟩ | ⟨g, cap, cur, rfl, _, hh, _⟩
  · exact .inl rfl
  · right
    intro e
    obtain ⟨o, ho', hc⟩ := hr g e.symm
    rw [hh] at ho'
    cases ho'
    cases hc
theorem CInv.set_other {N pb bs k : Nat} {e : Int} {ps : List (List UInt8)} {W : World} (h : CInv N pb bs e ps W) (hN : N + 1 < k) (hpb : pb < k) (hk : k < bs) (u : Value) : CInv N pb bs e ps (W.setCell ⟨k, 0, none⟩ u) := by
  obtain ⟨h1, h2, hz, v, hv, ho⟩ := h
  exact ⟨(Below.heap_setCell _ _ _ _ (by show N ≠ k; omega)).trans h1, (Below.heap_setCell _ _ _ _ (by show N + 1 ≠ k; omega)).trans h2, by simpa [World.setCell] using hz, v, (Below.heap_setCell _ _ _ _ (by show pb ≠ k; omega)).trans hv, ownsRow_setCell_below ho (a := ⟨k, 0, none⟩) hk u⟩
theorem kept3_set {b k : Nat} (W : World) (u : Value) (h : k < b) : Kept3 b W (W.setCell ⟨k, 0, none⟩ u) :=
  ⟨Below.heap_setCell _ _ _ _ (by show b ≠ k; omega), Below.heap_setCell _ _ _ _ (by show b + 1 ≠ k; omega), Below.heap_setCell _ _ _ _ (by show b + 2 ≠ k; omega)⟩
theorem CInv.fail {N pb bs : Nat} {ps : List (List UInt8)} {W : World} (h : CInv N pb bs 0 ps W) (hN : N + 1 < pb) (hb : pb < bs) :
    CInv N pb bs 5 ps ((W.setCell ⟨N, 0, none⟩ (.string (B []))).setCell ⟨N + 1, 0, none⟩ (.int .i64 5)) := by
  obtain ⟨h1, h2, hz, v, hv, ho⟩ := h
  have g1 := one_setCell (u := .string (B [])) h1
  have g2 : (W.setCell ⟨N, 0, none⟩ (.string (B []))).heap[N + 1]? = _ := (Below.heap_setCell W ⟨N, 0, none⟩ _ (N + 1) (by show N + 1 ≠ N; omega)).trans h2
  refine ⟨(Below.heap_setCell _ _ _ _ (by show N ≠ N + 1; omega)).trans g1, one_setCell g2, by simpa [World.setCell] using hz, v, ?_, ?_⟩
  · exact (Below.heap_setCell _ _ _ _ (by show pb ≠ N + 1; omega)).trans ((Below.heap_setCell _ _ _ _ (by show pb ≠ N; omega)).trans hv)
  · exact ownsRow_setCell_below (ownsRow_setCell_below ho (a := ⟨N, 0, none⟩) (by show N < bs; omega) _) (a := ⟨N + 1, 0, none⟩) (by show N + 1 < bs; omega) _
theorem CInv.put {N pb bs : Nat} {e : Int} {ps qs : List (List UInt8)} {W : World} (h : CInv N pb bs e ps W) (hN : N + 1 < pb) (hb : pb < bs) {u : Value} (ho : W.ownsRow bs 9 1 u qs.length (qs.map fun x => Value.string (B x))) :
    CInv N pb bs e qs (W.setCell ⟨pb, 0, none⟩ u) := by
  obtain ⟨h1, h2, hz, v, hv, _⟩ := h
  exact ⟨(Below.heap_setCell _ _ _ _ (by show N ≠ pb; omega)).trans h1, (Below.heap_setCell _ _ _ _ (by show N + 1 ≠ pb; omega)).trans h2, by simpa [World.setCell] using hz, u, one_setCell hv, ownsRow_setCell_below ho (a := ⟨pb, 0, none⟩) hb u⟩
theorem CInv.push {N pb bs : Nat} {e : Int} {ps qs : List (List UInt8)} {W W' : World} {row : Option Nat} {u : Value} (h : CInv N pb bs e ps W) (hN : N + 1 < pb) (hb : pb < bs) (hg : W.grownBy W' row) (hr : ∀ k, row = some k → bs ≤ k)
    (ho : W'.ownsRow bs 9 1 u qs.length (qs.map fun x => Value.string (B x))) :
    (∃ v, W'.heap[pb]? = some (.cells #[v] 23 (0, 0))) ∧ CInv N pb bs e qs (W'.setCell ⟨pb, 0, none⟩ u) := by
  obtain ⟨h1, h2, hz, v, hv, _⟩ := h
  have keep : ∀ k, k < bs → k < W.heap.size → W'.heap[k]? = W.heap[k]? := fun k hk hl => hg.block k hl (fun e => by have := hr k e.symm; omega)
  have g1 := (keep N (by omega) (lt_of_block h1)).trans h1
  have g2 := (keep _ (by omega) (lt_of_block h2)).trans h2
  have g3 := (keep pb hb (lt_of_block hv)).trans hv
  exact ⟨⟨v, g3⟩, (Below.heap_setCell _ _ _ _ (by show N ≠ pb; omega)).trans g1, (Below.heap_setCell _ _ _ _ (by show N + 1 ≠ pb; omega)).trans g2, by simpa [World.setCell] using Nat.le_trans hz hg.size, u, one_setCell g3, ownsRow_setCell_below ho (a := ⟨pb, 0, none⟩) hb u⟩
theorem kept3_grown {b bs : Nat} {W W' : World} {row : Option Nat} (hg : W.grownBy W' row) (hr : ∀ k, row = some k → bs ≤ k) (hb : b + 2 < bs) (hz : bs ≤ W.heap.size) : Kept3 b W W' := by
  have keep : ∀ k, k < bs → W'.heap[k]? = W.heap[k]? := fun k hk => hg.block k (by omega) (fun e => by have := hr k e.symm; omega)
  exact ⟨keep _ (by omega), keep _ (by omega), keep _ (by omega)⟩
theorem keepsOthers_own {bs n : Nat} {v : Value} {xs : List Value} {W W' : World} (ho : W.ownsRow bs 9 1 v n xs) (hg : W.grownBy W' v.ownBlock) : KeepsOthers W W' := by
  refine ⟨hg.size, fun k o hk hc => (hg.block k (Array.getElem?_eq_some_iff.1 hk).1 fun e => ?_).trans hk⟩
  rcases ho.2 with ⟨rfl, _⟩ | ⟨g, cap, cur, rfl, _, hh, _⟩
  · simp [Value.ownBlock] at e
  · simp only [Value.ownBlock, Option.some.injEq] at e
    subst e
    rw [hh] at hk
    cases hk
    cases hc
def totalP (l : List (List UInt8)) : Nat := (l.map List.length).sum
theorem joinP_len (ps : List (List UInt8)) : (joinP ps).length ≤ totalP ps + ps.length := by
  induction ps with
  | nil => simp [joinP, List.intercalate]
  | cons p ps ih =>
    cases ps with
    | nil => simp [joinP, List.intercalate, totalP]
    | cons q r =>
      have e : joinP (p :: q :: r) = p ++ 47 :: joinP (q :: r) := by simp [joinP, List.intercalate, List.intersperse]
      rw [e]
      simp [totalP] at ih ⊢
      omega
theorem totalP_dropLast (ps : List (List UInt8)) : totalP ps.dropLast ≤ totalP ps := by
  by_cases h : ps = []
  · subst h; simp
  · obtain ⟨qs, q, rfl⟩ : ∃ qs q, ps = qs ++ [q] := ⟨ps.dropLast, ps.getLast h, (List.dropLast_concat_getLast h).symm⟩
    simp [totalP]
theorem foldP_total (a : List (List UInt8)) : ∀ ps qs, foldP a ps = some qs → totalP qs ≤ totalP ps + totalP a := by
  induction a with
  | nil => intro ps qs h; simp [foldP] at h; subst h; simp [totalP]
  | cons p a ih =>
    intro ps qs h
    have hc : totalP (p :: a) = p.length + totalP a := by simp [totalP]
    rw [foldP] at h
    split at h
    · have := ih _ _ h; omega
    · split at h
      · split at h
        · cases h
        · have := ih _ _ h; have := totalP_dropLast ps; omega
      · have := ih _ _ h
        have e : totalP (ps ++ [p]) = totalP ps + p.length := by simp [totalP]
        omega
theorem splitK_total (c : UInt8) (l : List UInt8) : totalP (splitK c 0 l) ≤ l.length := by
  induction l with
  | nil => simp [splitK, totalP]
  | cons b l ih =>
    rw [splitK]; split
    · simp [totalP] at ih ⊢; omega
    · split
      · simp [totalP]
      · rename_i p ps he
        rw [he] at ih
        simp [totalP] at ih ⊢; omega
theorem join_calls (bs : Nat) (v : Value) (ps : List (List UInt8)) (W : World) (ho : W.ownsRow bs 9 1 v ps.length (ps.map fun x => Value.string (B x))) (hl : totalP ps + ps.length ≤ 1000000) :
    Calls Tryd.prog 37 #[v, .string ⟨#[47]⟩] W fun e w' => e = .returned (.string (B (joinP ps))) ∧ Below W.heap.size W w' := by
  by_cases h0 : ps = []
  · subst h0
    obtain ⟨A0, c0, rfl⟩ := own_slice ho
    exact (Tryd.strings_Join_none A0 c0 ⟨#[47]⟩ W).mono fun e w' ⟨he, hw⟩ => ⟨he, hw ▸ Below.refl _ _⟩
  · have hpos := List.length_pos_iff.2 h0
    have ho' := ho
    rcases ho.2 with ⟨_, hz⟩ | ⟨g, cap, cur, rfl, _, hh, hcap1, hcap2, _⟩
    · omega
    have hj : (ps.map B).map (fun x => x.data.toList) = ps := by simp [Function.comp_def]
    have := Tryd.strings_Join g 0 cap (ps.map B) ⟨#[47]⟩ W (fun j x hx => by
      have hj : j < ps.length := by have := (List.getElem?_eq_some_iff.1 hx).1; simpa using this
      have hc := ho'.cellAt j (by omega)
      rw [Nat.zero_add, hc]
      simp [List.getElem?_eq_getElem hj] at hx ⊢
      exact hx) (lt_of_block hh) (by simp; omega) (by simp; omega) (by
        rw [hj]; have := joinP_len ps; show (joinP ps).length ≤ _; omega)
    rw [hj, List.length_map] at this
    exact this
theorem infoStr : (Tryd.prog.info? 9).map (fun i => (i.zero, i.size, i.bytes)) = some (some (.string ⟨#[]⟩), 1, 16) := by kernel_rfl
theorem clean_leave (D N : Nat) (w W : World) (s : ByteArray) (e : Int) (tmps : Array Value) (ht2 : tmps[2]?.getD undef = .pointer (some ⟨N, 0, none⟩)) (ht3 : tmps[3]?.getD undef = .pointer (some ⟨N + 1, 0, none⟩))
    (h1 : W.heap[N]? = some (.cells #[.string s] 9 (0, 0))) (h2 : W.heap[N + 1]? = some (.cells #[.int .i64 e] 26 (0, 0))) (hK : W.heap[D]? = some (.deferred (some []))) (hD : w.heap.size ≤ D) (hB : Below w.heap.size w W) :
    bodyPostM Fence.wide 3 Tryd.prog Tryd.f61 (fun e' w' => e' = .returned (.tuple #[.string s, .int .i64 e]) ∧ Below w.heap.size w w') .ret { tmps := tmps, defers := [{ target := .collected D, args := #[] }] } W := by
  refine ⟨by simp, .inl ⟨_, _, rfl, run_takeDeferred hK, ?_⟩⟩
  have c1 := cell_kept (cell_of_one h1) (grownBy_putObj' _ D (.deferred none)) (fun r e => by cases e; exact ⟨_, hK, rfl⟩)
  have c2 := cell_kept (cell_of_one h2) (grownBy_putObj' _ D (.deferred none)) (fun r e => by cases e; exact ⟨_, hK, rfl⟩)
  refine ⟨.tuple #[.string s, .int .i64 e], ?_, rfl, hB.trans (belowK_b (w := w) (Nat.le_refl _) W D _ _ hD hK rfl rfl)⟩
  simp [results, Tryd.f61, go_sem, ht2, ht3, c1, c2]
attribute [local go_sem] Oper.semAt_some
set_option maxRecDepth 100000 in
set_option maxHeartbeats 8000000 in
theorem clean_main (l : List UInt8) (h : l.length ≤ 1000) (hb : ¬ l.head? = some 47) (hp : l.all plainB = true) (r : List UInt8 × Int) (hr : cleanL l = r) (w : World) :
    Calls Tryd.prog 61 #[.string (B l)] w fun e w' => e = .returned (.tuple #[.string (B r.1), .int .i64 r.2]) ∧ Below w.heap.size w w' := by
  have hs : (B l).size = l.length := size_B l
  have h' : (l.length : Int) ≤ 1000 := by omega
  have HP : Hid (∀ W, Calls Tryd.prog 75 #[.string (B l), .string ⟨#[47]⟩] W fun e w' => e = .returned (.bool false) ∧ W = w') := fun W => by
    have := Tryd.strings_HasPrefix (B l) ⟨#[47]⟩ W
    rw [data_B, hasPrefix_slash, decide_eq_false hb] at this
    exact this.mono fun e w' ⟨he, hw⟩ => ⟨he, hw.symm⟩
  have HI := Lib.hid (idx_calls l (-1) ((idx_plain l).1 hp))
  have HB := Lib.hid hb
  have HPL := Lib.hid hp
  have HR := Lib.hid hr
  clear hb hp hr
  refine (callsIn_wide (n := 3)).1 ?_
  refine callsIn_of_wp_marks Tryd.func61 rfl trivial ?_ rfl
  simp only [Tryd.ntmps61, List.size_toArray, List.length_cons, List.length_nil, Nat.reduceAdd, Nat.reduceSub, Array.replicate_succ, Array.replicate_zero, List.push_toArray, List.append_toArray, List.nil_append, List.cons_append]
  refine wpIn_wide.2 ?_
  obtain ⟨Q, hQ⟩ : ∃ Q, bodyPostM Fence.wide 3 Tryd.prog Tryd.f61 (fun e w' => e = .returned (.tuple #[.string (B r.1), .int .i64 r.2]) ∧ Below w.heap.size w w') = Q := ⟨_, rfl⟩
  rw [hQ]
  have HQ := Lib.hid hQ
  clear hQ
  go_wp2
  go_step3
  go_wp2_with fail
  refine (HP.out _).mono ?_
  rintro e w' ⟨rfl, rfl⟩
  go_wp2_with fail
  refine (HI.out _).mono ?_
  rintro e w1 ⟨rfl, hb⟩
  go_wp2_with fail
  go_step3
  have hd : decide ((1000 : Int) < (l.length : Int)) = false := by simp; omega
  have hlt1 : w.heap.size + 1 < w1.heap.size := by have := hb.size; simp at this; omega
  obtain ⟨W0, hW0⟩ : ∃ W0, w1.alloc (.cells #[.slice none 0 0] 23) = W0 := ⟨_, rfl⟩
  have hz0 : W0.heap.size = w1.heap.size + 1 := by rw [← hW0]; simp
  have b1 : W0.heap[w.heap.size]? = some (.cells #[.string (B [])] 9 (0, 0)) := by
    rw [← hW0]; exact (Below.heap_alloc _ _ _ (by omega)).trans ((hb.block _ (by simp; omega)).trans ((Below.heap_alloc _ _ _ (by simp)).trans (heap_alloc_new w _)))
  have b2 : W0.heap[w.heap.size + 1]? = some (.cells #[.int .i64 0] 26 (0, 0)) := by
    rw [← hW0]; exact (Below.heap_alloc _ _ _ (by omega)).trans ((hb.block _ (by simp)).trans (by simpa using heap_alloc_new (w.alloc _) _))
  have b3 : W0.heap[w1.heap.size]? = some (.cells #[.slice none 0 0] 23 (0, 0)) := by rw [← hW0]; exact heap_alloc_new _ _
  have hB0 : Below w.heap.size w W0 := by
    rw [← hW0]; exact ((((Below.refl _ w).alloc (Nat.le_refl _) _).alloc (by simp) _).trans (hb.mono (by simp; omega))).alloc (by omega) _
  rw [hW0]
  have H1 := Lib.hid b1
  have H2 := Lib.hid b2
  have H3 := Lib.hid b3
  have HB0 := Lib.hid hB0
  have HZ0 := Lib.hid hz0
  clear hW0 hb b1 b2 b3 hB0 hz0
  go_wp2_with fail
  refine (SplitSeq_calls l _).mono ?_
  rintro e w2 ⟨rfl, hb2, hz2, i0, i1, i2⟩
  rw [HZ0.out] at hz2 i0 i1 i2
  have HBB2 := Lib.hid hb2
  have I0 := Lib.hid i0
  have I1 := Lib.hid i1
  have I2 := Lib.hid i2
  have HZ2 := Lib.hid hz2
  clear hb2 i0 i1 i2 hz2
  go_wp2_with fail
  refine wpIn_wide.1 (wp_range_str (gf := 104) (lb := #[.pointer (some ⟨W0.heap.size + 1, 0, none⟩), .pointer (some ⟨W0.heap.size, 0, none⟩), .pointer (some ⟨W0.heap.size + 2, 0, none⟩)]) rfl (enters_of Tryd.func104 (by kernel_rfl) rfl)
    (split_seq 47 0 (by omega) W0.heap.size l (by omega) w2 ?hlt ?i0 ?i1 ?i2) (Below.refl _ _) ?hbw
    (fun pre W => (∃ pl ps, pre = pl.map B ∧ pl <+: splitK 47 0 l ∧ foldP pl [] = some ps ∧ CInv w.heap.size w1.heap.size w2.heap.size 0 ps W) ∧ Below w.heap.size w W)
    (fun c pre W => (c = .ret ∧ foldP (splitK 47 0 l) [] = none ∧ ∃ ps, CInv w.heap.size w1.heap.size w2.heap.size 5 ps W) ∧ Below w.heap.size w W)
    ?hI ?hIx ?hIs ?h0 ?a1 ?assign ?body ?done ?stop)
  case i0 => rw [HZ0.out]; exact I0.out
  case i1 => rw [HZ0.out]; exact I1.out
  case i2 => rw [HZ0.out]; exact I2.out
  case hlt => rw [HZ0.out]; exact HZ2.out
  case hbw => rw [HZ0.out]; exact HZ2.out
  case hI =>
    refine OwnFrom.and (Own.from (fun s A C row hs hg hr => ?_) _) (ownFrom_below (Nat.le_refl _) ?_)
    · obtain ⟨pl, ps, h1, h2, h3, h4⟩ := hs
      exact ⟨pl, ps, h1, h2, h3, CInv.own _ _ _ _ ps A C row h4 hg hr⟩
    · have := HZ2.out; omega
  case hIx =>
    intro c
    refine OwnFrom.and (Own.from (fun s A C row hs hg hr => ?_) _) (ownFrom_below (Nat.le_refl _) ?_)
    · obtain ⟨h1, h2, ps, h4⟩ := hs
      exact ⟨h1, h2, ps, CInv.own _ _ _ _ ps A C row h4 hg hr⟩
    · have := HZ2.out; omega
  case hIs =>
    rintro pre W u ⟨⟨pl, ps, h1, h2, h3, h4⟩, h5⟩
    exact ⟨⟨pl, ps, h1, h2, h3, h4.set_other (by have := HZ0.out; omega) (by have := HZ0.out; omega) (by have := HZ0.out; have := HZ2.out; omega) u⟩, h5.setCell (by show w.heap.size ≤ W0.heap.size; have := HZ0.out; omega) u⟩
  case h0 =>
    refine ⟨⟨[], [], rfl, List.nil_prefix, rfl, (HBB2.out.block _ (by have := HZ0.out; omega)).trans H1.out, (HBB2.out.block _ (by have := HZ0.out; omega)).trans H2.out, Nat.le_refl _, .slice none 0 0, (HBB2.out.block _ (by have := HZ0.out; omega)).trans H3.out, World.ownsRow_nil _ _ _ _⟩, ?_⟩
    exact HB0.out.trans (HBB2.out.mono (by have := HZ0.out; omega))
  case assign =>
    intro l' x W K hK
    simp only [List.zip_toArray, List.zip_cons_cons, List.zip_nil_right, List.foldl_toArray, List.foldl_cons, List.foldl_nil, List.setIfInBounds_toArray, List.set_cons_succ, List.set_cons_zero]
    gi_wp2
    exact hK
  case body =>
    have hpb : w1.heap.size < w2.heap.size := by have := HZ0.out; have := HZ2.out; omega
    rintro l' pre x W ⟨⟨pl, ps, rfl, hpl, hps, hinv⟩, hB⟩ hpx
    obtain ⟨p, rfl, hpp⟩ := map_snoc_prefix hpx
    have hfold : foldP (pl ++ [p]) [] = foldP [p] ps := by rw [foldP_append, hps]; rfl
    have HF := Lib.hid hfold
    have hlp := foldP_len _ _ _ hps
    have hlk := splitK_len 47 0 l
    have hll := hpl.length_le
    have hpn : ps.length ≤ 1001 := by simp at hlp; omega
    have HI := Lib.hid hinv
    have HPP := Lib.hid hpp
    obtain ⟨v, hv, hown⟩ := hinv.parts
    have c1 := cell_of_one hinv.r1
    have f1 := free_of_one hinv.r1
    have c2 := cell_of_one hinv.r2
    have f2 := free_of_one hinv.r2
    have c3 := cell_of_one hv
    have f3 := free_of_one hv
    clear hfold hlp hlk hll hpl hps hpx hpp hinv
    by_cases p0 : p = []
    · subst p0
      gi_wp2_with fail
      exact ⟨KeepsFrom.refl _ _, Kept3.refl _ _, ⟨pl ++ [[]], ps, by simp, HPP.out, by rw [HF.out]; simp [foldP], HI.out⟩, hB⟩
    by_cases p1 : p = [46]
    · subst p1
      gi_wp2_with fail
      exact ⟨KeepsFrom.refl _ _, Kept3.refl _ _, ⟨pl ++ [[46]], ps, by simp, HPP.out, by rw [HF.out]; simp [foldP], HI.out⟩, hB⟩
    by_cases p2 : p = [46, 46]
    · subst p2
      by_cases hps0 : ps = []
      · subst hps0
        obtain ⟨A0, c0, rfl⟩ := own_slice hown
        gi_wp2_with fail
        refine ⟨((KeepsOthers.setCell _ _ _).trans (KeepsOthers.setCell _ _ _)).from _, ⟨rfl, foldP_none HPP.out (by rw [HF.out]; simp [foldP]), [], HI.out.fail hlt1 hpb⟩, ?_⟩
        exact (hB.setCell (Nat.le_refl _) _).setCell (Nat.le_succ _) _
      · obtain ⟨qs, q, rfl⟩ : ∃ qs q, ps = qs ++ [q] := ⟨ps.dropLast, ps.getLast hps0, (List.dropLast_concat_getLast hps0).symm⟩
        rw [List.length_append, List.length_singleton, List.map_append] at hown
        have hown' := hown
        rcases hown'.2 with ⟨_, h0⟩ | ⟨g, cap, cur, rfl, _, _, hcap1, hcap2, _⟩
        · omega
        have hpop := ownsRow_pop (by simp) hown
        have HPOP := Lib.hid hpop
        have hcap3 : ((qs.length : Int)) ≤ (cap : Int) := by omega
        have hq : qs.length ≤ 1001 := by rw [List.length_append] at hpn; omega
        clear hown hown' hpop hpn
        gi_wp2_with fail
        refine ⟨(KeepsOthers.setCell _ _ _).from _, kept3_set _ _ (by have := HZ0.out; omega), ⟨pl ++ [[46, 46]], qs, by simp, HPP.out, by rw [HF.out]; simp [foldP], HI.out.put hlt1 hpb HPOP.out⟩, ?_⟩
        exact hB.setCell (by show w.heap.size ≤ w1.heap.size; omega) _
    · have q0 : p.isEmpty = false := by simpa using p0
      have q1 : (p == [46]) = false := by simpa using p1
      have q2 : (p == [46, 46]) = false := by simpa using p2
      have HFF : Hid (foldP [p] ps = some (ps ++ [p])) := by
        show foldP [p] ps = some (ps ++ [p])
        simp [foldP, p0, p1, p2]
      clear p0 p1 p2
      obtain ⟨i0, hi, hz0, hz1, hz2⟩ := info_parts infoStr
      have hle2 := HI.out.le
      gi_wp2_with (gi_at_builtin; go_must (refine wpListIn_append_own _ rfl _ _ 23 rfl w2.heap.size 9 i0 (.string ⟨#[]⟩) 1 16 Tryd.underlying23 hi hz0 hz1 hz2 rfl (by decide) _ _ _ rfl (hown.alloc _) ⟨W.heap.size, 0, none⟩ 1 1 [.string (B p)] rfl rfl (cell_one_new _ _ _) (by simp [Value.oneCell']) (by unfold maxLen; omega) (by omega) (by simp; omega) ?_; intro v' w3 hown' hgrow _; obtain ⟨g', cap', rfl⟩ := ownsRow_succ hown'; have HG := Lib.hid ((World.grownBy_alloc W _ v.ownBlock).trans hgrow); have HP := Lib.hid (HI.out.push hlt1 hpb HG.out (own_base hown) (qs := ps ++ [p]) (by simpa using hown')); obtain ⟨v3, hv3⟩ := HP.out.1; have k3 := cell_of_one hv3; have m3 := free_of_one hv3; clear hown' hgrow))
      have hKO : KeepsOthers W w3 := keepsOthers_own hown HG.out
      have hK3 : Kept3 W0.heap.size W w3 := kept3_grown HG.out (own_base hown) (by have := HZ0.out; have := HZ2.out; omega) hle2
      have hBW : Below w.heap.size w w3 := hB.grown HG.out hB.size (fun k hk => by have := own_base hown k hk; omega)
      refine ⟨(hKO.trans (KeepsOthers.setCell _ _ _)).from _, hK3.trans (kept3_set _ _ (by have := HZ0.out; omega)), ⟨pl ++ [p], ps ++ [p], by simp, HPP.out, by rw [HF.out, HFF.out], HP.out.2⟩, ?_⟩
      exact hBW.setCell (by show w.heap.size ≤ w1.heap.size; omega) _
  case done =>
    rintro D W hD ⟨⟨pl, ps, hpl, hpre, hps, hinv⟩, hB⟩ hK
    obtain rfl : pl = splitK 47 0 l := ((List.map_inj_right (fun _ _ e => B_inj e)).1 hpl).symm
    obtain ⟨v, hv, hown⟩ := hinv.parts
    have c1 := cell_of_one hinv.r1
    have f1 := free_of_one hinv.r1
    have c2 := cell_of_one hinv.r2
    have f2 := free_of_one hinv.r2
    have c3 := cell_of_one hv
    have f3 := free_of_one hv
    have HPS := Lib.hid hps
    have HIN := Lib.hid hinv
    have ht1 := foldP_total _ _ _ hps
    have ht2 := splitK_total 47 l
    have ht3 := foldP_len _ _ _ hps
    have ht4 := splitK_len 47 0 l
    have HJ := Lib.hid (join_calls w2.heap.size v ps W hown (by simp [totalP] at ht1 ht2 ht3; simp [totalP]; omega))
    have hD2 : w.heap.size ≤ D := by have := HZ0.out; have := HZ2.out; omega
    clear ht1 ht2 ht3 ht4 hown hps hpl hpre hinv
    go_wp2_with fail
    refine HJ.out.mono ?_
    rintro e w4 ⟨rfl, hb4⟩
    have n1 := (hb4.block _ (lt_of_block HIN.out.r1)).trans HIN.out.r1
    have n2 := (hb4.block _ (lt_of_block HIN.out.r2)).trans HIN.out.r2
    have N1 := Lib.hid n1
    have N2 := Lib.hid n2
    have k1 := cell_of_one n1
    have m1 := free_of_one n1
    have k2 := cell_of_one n2
    have m2 := free_of_one n2
    have HK4 := Lib.hid ((hb4.block _ (Array.getElem?_eq_some_iff.1 hK).1).trans hK)
    have HB4 := Lib.hid (hB.trans (hb4.mono hB.size))
    clear c1 f1 c2 f2 c3 f3 n1 n2 hb4 hK hB hv
    by_cases q0 : joinP ps = []
    · have q1 : (joinP ps).isEmpty = true := by simpa using q0
      have hres : r = ([], 5) := by rw [← HR.out]; simp [cleanL, Nat.not_lt.2 h, HB.out, HPL.out, HPS.out, q0]
      have HRES := Lib.hid hres
      clear hres q0
      go_wp2_with fail
      all_goals
        rw [Exit.noGoto_ret, ← HQ.out]
        have s1 := one_setCell (u := .string (B [])) N1.out
        have s2 : (w4.setCell ⟨w.heap.size, 0, none⟩ (.string (B []))).heap[w.heap.size + 1]? = _ := (Below.heap_setCell w4 ⟨w.heap.size, 0, none⟩ _ (w.heap.size + 1) (by show w.heap.size + 1 ≠ w.heap.size; omega)).trans N2.out
        have s3 := one_setCell (u := .int .i64 5) s2
        have s4 := (Below.heap_setCell (w4.setCell ⟨w.heap.size, 0, none⟩ (.string (B []))) ⟨w.heap.size + 1, 0, none⟩ (.int .i64 5) w.heap.size (by show w.heap.size ≠ w.heap.size + 1; omega)).trans s1
        rw [HRES.out]
        exact clean_leave D w.heap.size w _ _ _ _ rfl rfl s4 s3 (((KeepsOthers.setCell _ _ _).trans (KeepsOthers.setCell _ _ _)).same _ _ HK4.out rfl) (by omega) ((HB4.out.setCell (Nat.le_refl _) _).setCell (Nat.le_succ _) _)
    · have q1 : (joinP ps).isEmpty = false := by simpa using q0
      have hjs : (B (joinP ps)).size = (joinP ps).length := size_B _
      by_cases q2 : 100 < (joinP ps).length
      · have hres : r = ([], 3) := by rw [← HR.out]; simp [cleanL, Nat.not_lt.2 h, HB.out, HPL.out, HPS.out, q0, q2]
        have HRES := Lib.hid hres
        have q3 : (100 : Int) < ((joinP ps).length : Int) := by omega
        clear hres q0 q2
        go_wp2_with fail
        all_goals
          rw [Exit.noGoto_ret, ← HQ.out]
          have s1 := one_setCell (u := .string (B [])) N1.out
          have s2 : (w4.setCell ⟨w.heap.size, 0, none⟩ (.string (B []))).heap[w.heap.size + 1]? = _ := (Below.heap_setCell w4 ⟨w.heap.size, 0, none⟩ _ (w.heap.size + 1) (by show w.heap.size + 1 ≠ w.heap.size; omega)).trans N2.out
          have s3 := one_setCell (u := .int .i64 3) s2
          have s4 := (Below.heap_setCell (w4.setCell ⟨w.heap.size, 0, none⟩ (.string (B []))) ⟨w.heap.size + 1, 0, none⟩ (.int .i64 3) w.heap.size (by show w.heap.size ≠ w.heap.size + 1; omega)).trans s1
          rw [HRES.out]
          exact clean_leave D w.heap.size w _ _ _ _ rfl rfl s4 s3 (((KeepsOthers.setCell _ _ _).trans (KeepsOthers.setCell _ _ _)).same _ _ HK4.out rfl) (by omega) ((HB4.out.setCell (Nat.le_refl _) _).setCell (Nat.le_succ _) _)
      · have hres : r = (joinP ps, 0) := by rw [← HR.out]; simp [cleanL, Nat.not_lt.2 h, HB.out, HPL.out, HPS.out, q0, q2]
        have HRES := Lib.hid hres
        have q3 : ((joinP ps).length : Int) ≤ 100 := by omega
        clear hres q0 q2
        go_wp2_with fail
        all_goals
          rw [Exit.noGoto_ret, ← HQ.out]
          have s1 := one_setCell (u := .string (B (joinP ps))) N1.out
          have s2 : (w4.setCell ⟨w.heap.size, 0, none⟩ (.string (B (joinP ps)))).heap[w.heap.size + 1]? = _ := (Below.heap_setCell w4 ⟨w.heap.size, 0, none⟩ _ (w.heap.size + 1) (by show w.heap.size + 1 ≠ w.heap.size; omega)).trans N2.out
          have s3 := one_setCell (u := .int .i64 0) s2
          have s4 := (Below.heap_setCell (w4.setCell ⟨w.heap.size, 0, none⟩ (.string (B (joinP ps)))) ⟨w.heap.size + 1, 0, none⟩ (.int .i64 0) w.heap.size (by show w.heap.size ≠ w.heap.size + 1; omega)).trans s1
          rw [HRES.out]
          exact clean_leave D w.heap.size w _ _ _ _ rfl rfl s4 s3 (((KeepsOthers.setCell _ _ _).trans (KeepsOthers.setCell _ _ _)).same _ _ HK4.out rfl) (by omega) ((HB4.out.setCell (Nat.le_refl _) _).setCell (Nat.le_succ _) _)
  case stop =>
    rintro D c pre W hD hpre ⟨⟨rfl, hnone, ps, hinv⟩, hB⟩ hK
    have hres : r = ([], 5) := by rw [← HR.out]; simp [cleanL, Nat.not_lt.2 h, HB.out, HPL.out, hnone]
    have HRES := Lib.hid hres
    clear hres
    refine wpIn_wide.2 ?_
    go_wp2_with fail
    rw [Exit.noGoto_ret, ← HQ.out, HRES.out]
    exact clean_leave D w.heap.size w _ _ _ _ rfl rfl hinv.r1 hinv.r2 hK (by have := HZ0.out; have := HZ2.out; omega) hB
def path_Clean.f (a0 : ByteArray) : Option (ByteArray × Int) := some (B (cleanL a0.data.toList).1, (cleanL a0.data.toList).2)
theorem clean_any (l : List UInt8) (w : World) :
    Calls Tryd.prog 61 #[.string (B l)] w fun e w' => e = .returned (.tuple #[.string (B (cleanL l).1), .int .i64 (cleanL l).2]) ∧ Below w.heap.size w w' := by
  by_cases h1 : 1000 < l.length
  · have e : cleanL l = ([], 3) := by simp [cleanL, h1]
    rw [e]; exact clean_long l h1 w
  · by_cases h2 : l.head? = some 47
    · have e : cleanL l = ([], 5) := by simp [cleanL, h1, h2]
      rw [e]; exact clean_slash l (by omega) h2 w
    · by_cases h3 : l.all plainB = false
      · have e : cleanL l = ([], 5) := by rw [cleanL, if_neg h1, if_pos (.inr h3)]
        rw [e]; exact clean_bad l (by omega) h2 h3 w
      · exact clean_main l (by omega) h2 (by simpa using h3) _ rfl w
theorem path_Clean.calls (a0 : ByteArray) (r1 : ByteArray) (r2 : Int) (w : World) (h : path_Clean.f a0 = some (r1, r2)) :
    Calls Tryd.prog 61 #[.string a0] w fun e w' => e = .returned (.tuple #[.string r1, .int .i64 r2]) ∧ Below w.heap.size w w' := by
  have h' := Option.some.inj h
  obtain ⟨rfl, rfl⟩ : B (cleanL a0.data.toList).1 = r1 ∧ (cleanL a0.data.toList).2 = r2 := by
    constructor
    · exact congrArg Prod.fst h'
    · exact congrArg Prod.snd h'
  have := clean_any a0.data.toList w
  rwa [← B_of] at this
end Go.Proofs.YteniakfclkdlfaaDoor.P
end
section
set_option linter.unusedSimpArgs false
set_option linter.unusedVariables false
namespace Go.Proofs.YteniakfclkdlfaaDoor.Mf
open Go.RowKit Go.Lib Go.Shelf Go.Proofs.YteniakfclkdlfaaDoor.U Go.Proofs.YteniakfclkdlfaaDoor.Sc Go.Proofs.YteniakfclkdlfaaDoor.P
abbrev Er := Nat × Int
def kCommand : Txt := [99, 111, 109, 109, 97, 110, 100]
def kDepfile : Txt := [100, 101, 112, 102, 105, 108, 101]
def kDescription : Txt := [100, 101, 115, 99, 114, 105, 112, 116, 105, 111, 110]
def kRule : Txt := [114, 117, 108, 101]
def kBuild : Txt := [98, 117, 105, 108, 100]
def kDefault : Txt := [100, 101, 102, 97, 117, 108, 116]
def kIn : Txt := [105, 110]
def kOut : Txt := [111, 117, 116]
structure RuleS where
  name : Txt
  texts : MapL
  line : Nat
structure EdgeS where
  outs : List Txt
  ins : List Txt
  imp : List Txt
  ord : List Txt
  rule : Nat
  own : MapL
  line : Nat
structure St where
  file : MapL
  rules : List RuleS
  edges : List EdgeS
  defs : List Txt
  inner : Nat
def St.init : St := ⟨none0, [], [], [], 0⟩
def lv (m : MapL) : Lev := ⟨0, 0, 0, m⟩
def expF (ms : List MapL) (t : Txt) : Txt × Int := expandL (ms.map lv) t
def expE (line : Nat) (ms : List MapL) (t : Txt) : Except Er Txt := if (expF ms t).2 = 0 then .ok (expF ms t).1 else .error (line, (expF ms t).2)
def isSign (w : Txt) : Bool := w == [58] || w == [124] || w == [124, 124]
def cleanE (line : Nat) (s : Txt) : Except Er Txt := if (cleanL s).2 = 0 then .ok (cleanL s).1 else .error (line, 10)
def pathE (line : Nat) (file : MapL) (w : Txt) : Except Er Txt :=
  if isSign w = true then .error (line, 10) else
  match expE line [file] w with
  | .error e => .error e
  | .ok s => cleanE line s
def pathsE (line : Nat) (file : MapL) : List Txt → List Txt → Except Er (List Txt)
  | acc, [] => .ok acc
  | acc, w :: ws => match pathE line file w with
    | .error e => .error e
    | .ok p => pathsE line file (acc ++ [p]) ws
def setE (line : Nat) (text : Txt) : Except Er (Txt × Txt) :=
  if (cutL 61 text).2.2 = true ∧ nameL (trimB (cutL 61 text).1 32) = true then .ok (trimB (cutL 61 text).1 32, Lib.trimLeftB (cutL 61 text).2.1 32) else .error (line, 10)
def ahead (sign : Txt) (ws : List Txt) : List Txt := ws.takeWhile fun w => !(w == sign)
def behind (sign : Txt) (ws : List Txt) : List Txt := (ws.dropWhile fun w => !(w == sign)).tail
def ruleAt (rs : List RuleS) (nm : Txt) : Option Nat := rs.findIdx? fun r => r.name == nm
def closeE (st : St) : Except Er St :=
  if st.inner = 1 then
    match st.rules.getLast? with
    | some r => if (r.texts kCommand).getD [] = [] then .error (r.line, 10) else .ok { st with inner := 0 }
    | none => .ok { st with inner := 0 }
  else .ok { st with inner := 0 }
def ruleE (st : St) (line : Nat) (ws : List Txt) : Except Er St :=
  match ws with
  | [_, nm] => if nameL nm = true ∧ ruleAt st.rules nm = none then .ok { st with rules := st.rules ++ [⟨nm, none0, line⟩], inner := 1 } else .error (line, 10)
  | _ => .error (line, 10)
def buildE (st : St) (line : Nat) (ws : List Txt) : Except Er St :=
  if 200 ≤ st.edges.length then .error (line, 3) else
  let outs := ahead [58] ws.tail
  match outs, behind [58] ws.tail with
  | _ :: _, rn :: r => match ruleAt st.rules rn with
    | none => .error (line, 10)
    | some ri =>
      let rest := ahead [124, 124] r
      match pathsE line st.file [] outs with
      | .error e => .error e
      | .ok o => match pathsE line st.file [] (ahead [124] rest) with
        | .error e => .error e
        | .ok i => match pathsE line st.file [] (behind [124] rest) with
          | .error e => .error e
          | .ok m => match pathsE line st.file [] (behind [124, 124] r) with
            | .error e => .error e
            | .ok d => .ok { st with edges := st.edges ++ [⟨o, i, m, d, ri, none0, line⟩], inner := 2 }
  | _, _ => .error (line, 10)
def targetsE (st : St) (line : Nat) (ws : List Txt) : Except Er St :=
  match ws.tail with
  | [] => .error (line, 10)
  | w :: r => match pathsE line st.file [] (w :: r) with
    | .error e => .error e
    | .ok d => .ok { st with defs := st.defs ++ d }
def setLineE (st : St) (line : Nat) (text : Txt) : Except Er St :=
  match setE line text with
  | .error e => .error e
  | .ok nt => match expE line [st.file] nt.2 with
    | .error e => .error e
    | .ok x => .ok { st with file := upd st.file nt.1 x }
def onLast {α : Type} (f : α → α) : List α → List α
  | [] => []
  | [x] => [f x]
  | x :: y :: r => x :: onLast f (y :: r)
def innerE (st : St) (line : Nat) (text : Txt) : Except Er St :=
  if st.inner = 0 then .error (line, 10) else
  match setE line text with
  | .error e => .error e
  | .ok nt =>
    if st.inner = 1 then
      if nt.1 = kCommand ∨ nt.1 = kDepfile ∨ nt.1 = kDescription then .ok { st with rules := onLast (fun r => { r with texts := upd r.texts nt.1 nt.2 }) st.rules } else .error (line, 10)
    else match expE line [st.file] nt.2 with
      | .error e => .error e
      | .ok x => .ok { st with edges := onLast (fun e => { e with own := upd e.own nt.1 x }) st.edges }
def leftE (st : St) (line : Nat) (text : Txt) : Except Er St :=
  match closeE st with
  | .error e => .error e
  | .ok st => match Lex.words text with
    | [] => .error (line, 10)
    | w :: ws =>
      if w = kRule then ruleE st line (w :: ws)
      else if w = kBuild then buildE st line (w :: ws)
      else if w = kDefault then targetsE st line (w :: ws)
      else setLineE st line text
def takesE (st : St) (l : Ln.LineT) : Except Er St := if l.inner = true then innerE st l.num l.text else leftE st l.num l.text
def linesE : St → List Ln.LineT → Except Er St
  | st, [] => .ok st
  | st, l :: ls => match takesE st l with
    | .error e => .error e
    | .ok st => linesE st ls
structure EdgeO where
  outs : List Txt
  ins : List Txt
  imp : List Txt
  ord : List Txt
  command : Txt
  depfile : Txt
def joinS (ps : List Txt) : Txt := [32].intercalate ps
def endsE (file : MapL) (rules : List RuleS) (e : EdgeS) : Except Er EdgeO :=
  let ms := [upd (upd e.own kIn (joinS e.ins)) kOut (joinS e.outs), file]
  let texts := match rules[e.rule]? with | some r => r.texts | none => none0
  match expE e.line ms ((texts kCommand).getD []) with
  | .error x => .error x
  | .ok c => if c = [] then .error (e.line, 10) else
    match expE e.line ms ((texts kDepfile).getD []) with
    | .error x => .error x
    | .ok d => if d = [] then .ok ⟨e.outs, e.ins, e.imp, e.ord, c, []⟩ else
      match cleanE e.line d with
      | .error x => .error x
      | .ok p => .ok ⟨e.outs, e.ins, e.imp, e.ord, c, p⟩
def endsAll (file : MapL) (rules : List RuleS) : List EdgeS → List EdgeO → Except Er (List EdgeO)
  | [], acc => .ok acc
  | e :: es, acc => match endsE file rules e with
    | .error x => .error x
    | .ok o => endsAll file rules es (acc ++ [o])
def parseE (ls : List Ln.LineT) : Except Er (List EdgeO × List Txt) :=
  match linesE St.init ls with
  | .error e => .error e
  | .ok st => match closeE st with
    | .error e => .error e
    | .ok st => match endsAll st.file st.rules st.edges [] with
      | .error e => .error e
      | .ok es => .ok (es, st.defs)
def parseL (text : Txt) : List EdgeO × List Txt × Nat × Int :=
  if (Ln.linesL text).2.2 = 0 then
    match parseE (Ln.linesL text).1 with
    | .error e => ([], [], e.1, e.2)
    | .ok r => (r.1, r.2, 0, 0)
  else ([], [], (Ln.linesL text).2.1, (Ln.linesL text).2.2)
end Go.Proofs.YteniakfclkdlfaaDoor.Mf
end
section
set_option linter.unusedSimpArgs false
set_option linter.unusedVariables false
namespace Go.Proofs.YteniakfclkdlfaaDoor.Mf
open Go.RowKit Go.Lib Go.Shelf Go.Proofs.YteniakfclkdlfaaDoor.U Go.Proofs.YteniakfclkdlfaaDoor.Sc Go.Proofs.YteniakfclkdlfaaDoor.P
theorem dollarL_congr {L L' : List Lev} (h : ∀ k, getL L k = getL L' k) (t : Txt) : dollarL L t = dollarL L' t := by
  cases t with
  | nil => rfl
  | cons c r => simp only [dollarL, h]
theorem expGo_congr {L L' : List Lev} (h : ∀ k, getL L k = getL L' k) (f : Nat) : ∀ (t out : Txt) (long : Bool), expGo L f t out long = expGo L' f t out long := by
  induction f with
  | zero => intro t out long; rfl
  | succ f ih => intro t out long; simp only [expGo, dollarL_congr h, ih]
theorem expandL_congr {L L' : List Lev} (h : ∀ k, getL L k = getL L' k) (t : Txt) : expandL L t = expandL L' t := by
  simp only [expandL, expGo_congr h]
theorem getL_lv (L : List Lev) (k : Txt) : getL L k = getL ((L.map (·.m)).map lv) k := by
  induction L with
  | nil => rfl
  | cons s r ih => simp only [List.map_cons, getL, lv, ih]
theorem expandL_expF (L : List Lev) (t : Txt) : expandL L t = expF (L.map (·.m)) t := expandL_congr (getL_lv L) t
theorem finL_len (r : Option (Txt × Bool)) : (finL r).1.length ≤ 16384 := by
  cases r with
  | none => simp [finL]
  | some p =>
    obtain ⟨o, l⟩ := p
    simp only [finL]
    split
    · simp
    · rename_i h; simp only [not_or] at h; show o.length ≤ _; omega
theorem expF_len (ms : List MapL) (t : Txt) : (expF ms t).1.length ≤ 16384 := finL_len _
def Short (M : Nat) (m : MapL) : Prop := ∀ k t, m k = some t → t.length ≤ M
theorem Short.none0 (M : Nat) : Short M none0 := fun k t h => by cases h
theorem Short.upd {M : Nat} {m : MapL} (h : Short M m) {k t : Txt} (ht : t.length ≤ M) : Short M (upd m k t) := by
  intro x u hx
  by_cases e : x = k
  · have : t = u := by simpa [Sc.upd, e] using hx
    rw [← this]; exact ht
  · exact h x u (by simpa [Sc.upd, e] using hx)
theorem Short.mono {M M' : Nat} {m : MapL} (h : Short M m) (hM : M ≤ M') : Short M' m := fun k t e => Nat.le_trans (h k t e) hM
theorem getL_short {M : Nat} : ∀ {L : List Lev}, (∀ s ∈ L, Short M s.m) → ∀ k, (getL L k).length ≤ M := by
  intro L
  induction L with
  | nil => intro _ k; exact Nat.zero_le _
  | cons s r ih =>
    intro h k
    simp only [getL]
    cases hm : s.m k with
    | some t => exact h s (by simp) k t hm
    | none => exact ih (fun x hx => h x (by simp [hx])) k
theorem pathsE_len (line : Nat) (file : MapL) : ∀ (ws acc d : List Txt), pathsE line file acc ws = .ok d → d.length = acc.length + ws.length := by
  intro ws
  induction ws with
  | nil => intro acc d h; obtain rfl : acc = d := by simpa [pathsE] using h
           simp
  | cons x r ih =>
    intro acc d h
    rw [pathsE] at h
    cases hp : pathE line file x with
    | error e => rw [hp] at h; cases h
    | ok p =>
      rw [hp] at h
      have := ih _ _ h
      rw [this, List.length_append, List.length_cons, List.length_cons, List.length_nil]; omega
end Go.Proofs.YteniakfclkdlfaaDoor.Mf
end
section
set_option linter.unusedSimpArgs false
set_option linter.unusedVariables false
namespace Go.Proofs.YteniakfclkdlfaaDoor.MapV
open Go.RowKit Go.Lib Go.Maps Go.WideMaps Go.WideElems Go.Proofs.YteniakfclkdlfaaDoor.U Go.Proofs.YteniakfclkdlfaaDoor.Idx Go.Proofs.YteniakfclkdlfaaDoor.Sc
abbrev MapVal := Txt → Option Value
def updV (m : MapVal) (k : Txt) (v : Value) : MapVal := fun x => if x = k then some v else m x
def noneV : MapVal := fun _ => none
def Rv (v : Value) : Option (DataW Value × List MemPlace) := some (.held v, [])
def OwnsV (w : World) (b n : Nat) (m : MapVal) : Prop :=
  ∃ D : DataW Value, w.ownsMap Tryd.prog 9 Rv b n D ∧ (∀ k, Maps.has D (.string k) = (m k).isSome) ∧ (∀ k t, m k = some t → ∀ z, D.atKey (.string k) z = .held t)
theorem OwnsV.lt {w : World} {b n : Nat} {m : MapVal} (h : OwnsV w b n m) : b < w.heap.size := by
  obtain ⟨D, h, _⟩ := h
  exact h.lt
theorem OwnsV.mono {w : World} {b n n' : Nat} {m : MapVal} (h : OwnsV w b n m) (hn : n ≤ n') : OwnsV w b n' m := by
  obtain ⟨D, h, r⟩ := h
  exact ⟨D, h.mono hn, r⟩
theorem OwnsV.same {w w' : World} {b n : Nat} {m : MapVal} (h : OwnsV w b n m) (hb : w'.heap[b]? = w.heap[b]?) : OwnsV w' b n m := by
  obtain ⟨D, ⟨es, clock, h1, h2⟩, r⟩ := h
  exact ⟨D, ⟨es, clock, hb.trans h1, h2⟩, r⟩
theorem OwnsV.made (w : World) : OwnsV (w.alloc (.map #[] 0)) w.heap.size 0 noneV :=
  ⟨.map [], World.ownsMap_made w _ _ _, fun _ => rfl, fun k t h => by cases h⟩
theorem held_of {w : World} {b n : Nat} {m : MapVal} {D : DataW Value} (h1 : ∀ k, Maps.has D (.string k) = (m k).isSome) (h2 : ∀ k t, m k = some t → ∀ z, D.atKey (.string k) z = .held t)
    {k : Txt} {z v : Value} {ps : List MemPlace} (hv : Rv v = some (D.atKey (.string k) (.held z), ps)) : v = (m k).getD z := by
  have hat : (DataW.held v : DataW Value) = D.atKey (.string k) (.held z) := (Prod.mk.inj (Option.some.inj hv)).1
  cases hm : m k with
  | none =>
    have hn : Maps.has D (.string k) = false := by rw [h1 k, hm]; rfl
    rw [Maps.atKey_of_not_has hn] at hat
    injection hat
  | some t =>
    rw [h2 k t hm] at hat
    injection hat
theorem OwnsV.look {t e : TypeId} {z : Value} {w : World} {b n : Nat} {m : MapVal} (h : OwnsV w b n m) (ht : Tryd.prog.underlying t = some (.map 9 e)) (hz : (zeroValue e).run Tryd.prog w = .ok z w) (k : Txt) (hk : k.length ≤ maxLen) :
    (Instr.lookup t (.map (some b)) (.string (B k)) false).run Tryd.prog w = .ok ((m k).getD z) w := by
  obtain ⟨D, h, h1, h2⟩ := h
  have hkey : keyOf Tryd.prog 9 (.string (B k)) = some (.string k) := keyOf_string_mk Tryd.underlying9 (by rw [size_B]; exact hk)
  obtain ⟨v, ps, hrun, hv⟩ := h.lookup skeyed ht hz (show Rv z = some (.held z, []) from rfl) hkey
  rw [hrun, held_of (w := w) (b := b) (n := n) h1 h2 hv]
theorem OwnsV.look_ok {t e : TypeId} {z : Value} {w : World} {b n : Nat} {m : MapVal} (h : OwnsV w b n m) (ht : Tryd.prog.underlying t = some (.map 9 e)) (hz : (zeroValue e).run Tryd.prog w = .ok z w) (k : Txt) (hk : k.length ≤ maxLen) :
    (Instr.lookup t (.map (some b)) (.string (B k)) true).run Tryd.prog w = .ok (.tuple #[(m k).getD z, .bool (m k).isSome]) w := by
  obtain ⟨D, h, h1, h2⟩ := h
  have hkey : keyOf Tryd.prog 9 (.string (B k)) = some (.string k) := keyOf_string_mk Tryd.underlying9 (by rw [size_B]; exact hk)
  obtain ⟨v, ps, hrun, hv⟩ := h.look_ok skeyed ht hz (show Rv z = some (.held z, []) from rfl) hkey
  rw [hrun, h1 k, held_of (w := w) (b := b) (n := n) h1 h2 hv]
theorem OwnsV.store {t e : TypeId} {w : World} {b n : Nat} {m : MapVal} (h : OwnsV w b n m) (ht : Tryd.prog.underlying t = some (.map 9 e)) (hn : n < maxLen) (k : Txt) (v : Value) (hk : k.length ≤ maxLen) :
    ∃ w', (Instr.mapUpdate t (.map (some b)) (.string (B k)) v).run Tryd.prog w = .ok () w' ∧ OwnsV w' b (n + 1) (updV m k v) ∧ w.grownBy w' (some b) := by
  obtain ⟨D, h, h1, h2⟩ := h
  have hkey : keyOf Tryd.prog 9 (.string (B k)) = some (.string k) := keyOf_string_mk Tryd.underlying9 (by rw [size_B]; exact hk)
  obtain ⟨w', hrun, hown, hg⟩ := h.update skeyed ht hn hkey (show Rv v = some (.held v, []) from rfl)
  refine ⟨w', hrun, ⟨_, hown, ?_, ?_⟩, hg⟩
  · intro x
    by_cases hx : x = k
    · subst hx
      rw [has_put_same h.isMap (show WideAt.IsKeyLit (.string x) from trivial)]; simp [updV]
    · rw [has_put_other (by simpa using hx), h1 x]; simp [updV, hx]
  · intro x t' hx' z
    by_cases hx : x = k
    · subst hx
      rw [atKey_put_same h.isMap (show WideAt.IsKeyLit (.string x) from trivial)]
      have : v = t' := by simpa [updV] using hx'
      rw [← this]
    · rw [atKey_put_other (by simpa using hx)]
      exact h2 x t' (by simpa [updV, hx] using hx') z
theorem OwnsV.entry {t e : TypeId} {z : Value} {w : World} {b n : Nat} {m : MapVal} (h : OwnsV w b n m) (ht : Tryd.prog.underlying t = some (.map 9 e)) (hz : ∀ w, (zeroValue e).run Tryd.prog w = .ok z w) (hn : n < maxLen) (k : Txt) (v : Value) (hk : k.length ≤ maxLen) :
    ∃ (v0 : Value) (st : Nat) (w1 : World), (Instr.mapEntry t (.map (some b)) (.string (B k))).run Tryd.prog w = .ok (.tuple #[v0, .int .i64 (st : Int)]) w1 ∧ w.grownBy w1 (some b) ∧
      ∀ w2 : World, w2.heap[b]? = w1.heap[b]? → ∃ w3, (Instr.entryStore t (.map (some b)) (.int .i64 (st : Int)) v).run Tryd.prog w2 = .ok () w3 ∧ OwnsV w3 b (n + 1) (updV m k v) ∧ w2.grownBy w3 (some b) := by
  have hst := h.store ht hn k v hk
  obtain ⟨D, ⟨es, clock, hb, F, hs, hD⟩, h1, h2⟩ := h
  have hkey : keyOf Tryd.prog 9 (.string (B k)) = some (.string k) := keyOf_string_mk Tryd.underlying9 (by rw [size_B]; exact hk)
  obtain ⟨v0, st, es1, clock1, hrun, _, hthen⟩ := entry_then_store (WideMaps.string_law Tryd.underlying9) ht hz hb F hkey
  have hg : ∀ (w : World) (o' : Obj) (es : Array MapEntry) (clock : Nat), w.heap[b]? = some (.map es clock) → w.grownBy (ChangeMaps.setBlock w b o') (some b) := fun w o' es clock hw => ⟨rfl, rfl, rfl, by simp [ChangeMaps.setBlock], fun i _ hi => ChangeMaps.heap_setBlock_other hw _ (fun e => hi (by rw [e]))⟩
  refine ⟨v0, st, _, hrun, hg w _ _ _ hb, fun w2 hw2 => ?_⟩
  have hw2' : w2.heap[b]? = some (.map es1 clock1) := hw2.trans (ChangeMaps.heap_setBlock_same hb _)
  obtain ⟨es', clock', r1, r2⟩ := hthen w2 v hw2'
  refine ⟨_, r1, ?_, hg w2 _ _ _ hw2'⟩
  obtain ⟨w', s1, s2, _⟩ := hst
  rw [r2] at s1
  have hw' : ChangeMaps.setBlock w b (.map es' clock') = w' := by injection s1
  refine s2.same ?_
  rw [← hw', ChangeMaps.heap_setBlock_same hb, ChangeMaps.heap_setBlock_same hw2']
end Go.Proofs.YteniakfclkdlfaaDoor.MapV
end
section
set_option linter.unusedSimpArgs false
set_option linter.unusedVariables false
namespace Go.Proofs.YteniakfclkdlfaaDoor.Mf
open Go.RowKit Go.Lib Go.Shelf Go.Proofs.YteniakfclkdlfaaDoorW.PrintWords Go.Proofs.YteniakfclkdlfaaDoor.U Go.Proofs.YteniakfclkdlfaaDoor.Sc Go.Proofs.YteniakfclkdlfaaDoor.P
abbrev wr (line : Nat) (c : Int) : Ending := .panicked [{ v := .iface 49 (.agg #[.int .i64 (line : Int), .int .i64 c]), recovered := false }]
set_option maxRecDepth 100000 in
set_option maxHeartbeats 2000000 in
theorem need_ok (r : Value) (c : Int) (w : World) : Calls Tryd.prog 29 #[r, .bool true, .int .i64 c] w fun e w' => e = .returned (.tuple #[]) ∧ w = w' := by
  go_enter Tryd.func29, Tryd.ntmps29
  go_wp2
  go_end0
  exact ⟨rfl, rfl⟩
set_option maxRecDepth 100000 in
set_option maxHeartbeats 2000000 in
theorem need_no (b : Nat) (line : Nat) (c : Int) (w : World) (h4 : w.cell? ⟨b, 4, none⟩ = some (.int .i64 (line : Int))) :
    Calls Tryd.prog 29 #[.pointer (some ⟨b, 0, none⟩), .bool false, .int .i64 c] w fun e w' => e = wr line c ∧ w = w' := by
  go_enter Tryd.func29, Tryd.ntmps29
  go_wp2
  exact ⟨rfl, rfl, rfl⟩
def Gives {α : Type} (r : Except Er α) (K : α → Value) (w : World) (e : Ending) (w' : World) : Prop :=
  match r with
  | .ok x => e = .returned (K x) ∧ Below w.heap.size w w'
  | .error x => e = wr x.1 x.2 ∧ Below w.heap.size w w'
theorem Gives.fin {α : Type} {r : Except Er α} {K : α → Value} {w w' : World} {x : α} (h : r = .ok x) (hb : Below w.heap.size w w') : Gives r K w (.returned (K x)) w' := by
  subst h; exact ⟨rfl, hb⟩
theorem Gives.bad {α : Type} {r : Except Er α} {K : α → Value} {w w' : World} {l : Nat} {c : Int} (h : r = .error (l, c)) (hb : Below w.heap.size w w') : Gives r K w (wr l c) w' := by
  subst h; exact ⟨rfl, hb⟩
set_option maxRecDepth 100000 in
set_option maxHeartbeats 2000000 in
theorem expanded_any (b line : Nat) (L : List Lev) (v : Value) (text : Txt) (w : World) (h4 : w.cell? ⟨b, 4, none⟩ = some (.int .i64 (line : Int))) (hb : b < w.heap.size)
    (hl : text.length < 1000000000) (hT : ∀ k, (getL L k).length < 1000000000) (hC : Chain w L v) :
    Calls Tryd.prog 36 #[.pointer (some ⟨b, 0, none⟩), v, .string (B text)] w (Gives (expE line (L.map (·.m)) text) (fun x => .string (B x)) w) := by
  have hE := Lib.hid (Expand_any L v text hl hT w hC)
  have he : expE line (L.map (·.m)) text = if (expandL L text).2 = 0 then .ok (expandL L text).1 else .error (line, (expandL L text).2) := by
    rw [expE, expandL_expF]
  generalize expE line (L.map (·.m)) text = R at *
  obtain ⟨⟨t, c⟩, hx⟩ : ∃ x, expandL L text = x := ⟨_, rfl⟩
  rw [hx] at hE he
  have hH := Lib.hid he
  clear he hx hC hT
  have h4H := Lib.hid h4
  clear h4
  by_cases hc : c = 0
  · subst hc
    have hR : Hid (R = .ok t) := by show R = _; rw [hH.out, if_pos rfl]
    clear hH
    go_enter Tryd.func36, Tryd.ntmps36
    go_wp2_with fail
    refine hE.out.mono ?_
    rintro e w1 ⟨rfl, hb1⟩
    go_wp2_with fail
    refine (need_ok _ _ _).mono ?_
    rintro e w2 ⟨rfl, rfl⟩
    go_wp2_with fail
    go_ret
    exact Gives.fin hR.out hb1
  · have hR : Hid (R = .error (line, c)) := by show R = _; rw [hH.out, if_neg hc]
    have hcb : (c == 0) = false := beq_eq_false_iff_ne.2 hc
    clear hH hc
    go_enter Tryd.func36, Tryd.ntmps36
    go_wp2_with fail
    refine hE.out.mono ?_
    rintro e w1 ⟨rfl, hb1⟩
    have h41 := Lib.hid ((hb1.cell (p := ⟨b, 4, none⟩) hb).trans h4H.out)
    go_wp2_with fail
    refine (need_no b line c _ h41.out).mono ?_
    rintro e w2 ⟨rfl, rfl⟩
    exact ⟨rfl, Gives.bad hR.out hb1⟩
set_option maxRecDepth 100000 in
set_option maxHeartbeats 2000000 in
theorem mclean_any (b line : Nat) (text : Txt) (w : World) (h4 : w.cell? ⟨b, 4, none⟩ = some (.int .i64 (line : Int))) (hb : b < w.heap.size) :
    Calls Tryd.prog 38 #[.pointer (some ⟨b, 0, none⟩), .string (B text)] w (Gives (cleanE line text) (fun x => .string (B x)) w) := by
  have hE := Lib.hid (clean_any text w)
  have he : cleanE line text = if (cleanL text).2 = 0 then .ok (cleanL text).1 else .error (line, 10) := rfl
  generalize cleanE line text = R at *
  obtain ⟨⟨t, c⟩, hx⟩ : ∃ x, cleanL text = x := ⟨_, rfl⟩
  rw [hx] at hE he
  have hH := Lib.hid he
  clear he hx
  have h4H := Lib.hid h4
  clear h4
  by_cases hc : c = 0
  · subst hc
    have hR : Hid (R = .ok t) := by show R = _; rw [hH.out, if_pos rfl]
    clear hH
    go_enter Tryd.func38, Tryd.ntmps38
    go_wp2_with fail
    refine hE.out.mono ?_
    rintro e w1 ⟨rfl, hb1⟩
    go_wp2_with fail
    refine (need_ok _ _ _).mono ?_
    rintro e w2 ⟨rfl, rfl⟩
    go_wp2_with fail
    go_ret
    exact Gives.fin hR.out hb1
  · have hR : Hid (R = .error (line, 10)) := by show R = _; rw [hH.out, if_neg hc]
    have hcb : (c == 0) = false := beq_eq_false_iff_ne.2 hc
    clear hH hc
    go_enter Tryd.func38, Tryd.ntmps38
    go_wp2_with fail
    refine hE.out.mono ?_
    rintro e w1 ⟨rfl, hb1⟩
    have h41 := Lib.hid ((hb1.cell (p := ⟨b, 4, none⟩) hb).trans h4H.out)
    go_wp2_with fail
    refine (need_no b line 10 _ h41.out).mono ?_
    rintro e w2 ⟨rfl, rfl⟩
    exact ⟨rfl, Gives.bad hR.out hb1⟩
end Go.Proofs.YteniakfclkdlfaaDoor.Mf
end
section
namespace Go.Proofs.YteniakfclkdlfaaDoor.P
open Go.RowKit Go.Proofs.YteniakfclkdlfaaDoorW.PrintWords Go.Proofs.YteniakfclkdlfaaDoorW.PrintLast Go.Proofs.YteniakfclkdlfaaDoorW.PrintMore
attribute [local go_sem] max2_int min2_int max_two min_two max_three min_three max_four min_four
set_option linter.unusedVariables false
set_option linter.unusedSimpArgs false
def errW : Option Int → Value
  | none => .nilIface
  | some c => .iface 0 (.int .i64 c)
theorem errW_none : errW none = .nilIface := rfl
theorem errW_some (c : Int) : errW (some c) = .iface 0 (.int .i64 c) := rfl
theorem info9 : (Tryd.prog.info? 9).map (fun i => (i.zero, i.size, i.bytes)) = some (some (.string ⟨#[]⟩), 1, 16) := by kernel_rfl
structure S61 where
  f0 : Bool
  f1 : ByteArray
  f2 : Int
def k61 : Kd S61 := Kd.iso (Kd.pair Kd.bool (Kd.pair Kd.string (Kd.int .i64))) (fun x : S61 => (x.f0, x.f1, x.f2))
theorem k61_mkM (w : World) (base : Nat) (ok : Nat → Prop) (x : S61)  : k61.M w base ok x [.bool x.f0, .string x.f1, .int .i64 x.f2] := ⟨[.bool x.f0], [.string x.f1, .int .i64 x.f2], rfl, rfl, ⟨[.string x.f1], [.int .i64 x.f2], rfl, rfl, rfl⟩⟩
structure S31 where
  f0 : (List ByteArray)
  f1 : (List ByteArray)
  f2 : (List ByteArray)
  f3 : (List ByteArray)
  f4 : ByteArray
  f5 : ByteArray
def z31 : S31 := ⟨([] : List ByteArray), ([] : List ByteArray), ([] : List ByteArray), ([] : List ByteArray), (⟨#[]⟩ : ByteArray), (⟨#[]⟩ : ByteArray)⟩
def k31 : Kd S31 := Kd.iso (Kd.pair (Kd.slice 9 Kd.string) (Kd.pair (Kd.slice 9 Kd.string) (Kd.pair (Kd.slice 9 Kd.string) (Kd.pair (Kd.slice 9 Kd.string) (Kd.pair Kd.string Kd.string))))) (fun x : S31 => (x.f0, x.f1, x.f2, x.f3, x.f4, x.f5))
theorem k31_open {w : World} {x : S31} {cs : List Value} (h : k31.K w x cs) : ∃ A0 c0 A1 c1 A2 c2 A3 c3, cs = [.slice A0 x.f0.length c0, .slice A1 x.f1.length c1, .slice A2 x.f2.length c2, .slice A3 x.f3.length c3, .string x.f4, .string x.f5] ∧ x.f0.length ≤ c0 ∧ Kd.string.C w A0 x.f0.length x.f0 ∧ x.f1.length ≤ c1 ∧ Kd.string.C w A1 x.f1.length x.f1 ∧ x.f2.length ≤ c2 ∧ Kd.string.C w A2 x.f2.length x.f2 ∧ x.f3.length ≤ c3 ∧ Kd.string.C w A3 x.f3.length x.f3 := by
  obtain ⟨_, _, rfl, ⟨A0, c0, rfl, l0, g0⟩, ⟨_, _, rfl, ⟨A1, c1, rfl, l1, g1⟩, ⟨_, _, rfl, ⟨A2, c2, rfl, l2, g2⟩, ⟨_, _, rfl, ⟨A3, c3, rfl, l3, g3⟩, ⟨_, _, rfl, rfl, rfl⟩⟩⟩⟩⟩ := h
  exact ⟨A0, c0, A1, c1, A2, c2, A3, c3, rfl, l0, g0, l1, g1, l2, g2, l3, g3⟩
theorem k31_mk (w : World) (x : S31) {A0 : Option Addr} {c0 : Nat} (l0 : x.f0.length ≤ c0) (g0 : Kd.string.C w A0 x.f0.length x.f0) {A1 : Option Addr} {c1 : Nat} (l1 : x.f1.length ≤ c1) (g1 : Kd.string.C w A1 x.f1.length x.f1) {A2 : Option Addr} {c2 : Nat} (l2 : x.f2.length ≤ c2) (g2 : Kd.string.C w A2 x.f2.length x.f2) {A3 : Option Addr} {c3 : Nat} (l3 : x.f3.length ≤ c3) (g3 : Kd.string.C w A3 x.f3.length x.f3) : k31.K w x [.slice A0 x.f0.length c0, .slice A1 x.f1.length c1, .slice A2 x.f2.length c2, .slice A3 x.f3.length c3, .string x.f4, .string x.f5] := ⟨[.slice A0 x.f0.length c0], [.slice A1 x.f1.length c1, .slice A2 x.f2.length c2, .slice A3 x.f3.length c3, .string x.f4, .string x.f5], rfl, ⟨A0, c0, rfl, l0, g0⟩, ⟨[.slice A1 x.f1.length c1], [.slice A2 x.f2.length c2, .slice A3 x.f3.length c3, .string x.f4, .string x.f5], rfl, ⟨A1, c1, rfl, l1, g1⟩, ⟨[.slice A2 x.f2.length c2], [.slice A3 x.f3.length c3, .string x.f4, .string x.f5], rfl, ⟨A2, c2, rfl, l2, g2⟩, ⟨[.slice A3 x.f3.length c3], [.string x.f4, .string x.f5], rfl, ⟨A3, c3, rfl, l3, g3⟩, ⟨[.string x.f4], [.string x.f5], rfl, rfl, rfl⟩⟩⟩⟩⟩
def rd_T31 (xs : List S31) (i : Int) : S31 := xs.getD i.toNat z31
theorem at_T31 {w : World} {A : Option Addr} {n : Nat} {xs : List S31} (h : Kd.C k31 w A n xs) (i : Int) (h0 : 0 ≤ i) (h1 : i < n) : ∃ ad A0 c0 A1 c1 A2 c2 A3 c3, A = some ad ∧ w.cell? (ad.add (i.toNat * 6)) = some (.slice A0 (rd_T31 xs i).f0.length c0) ∧ w.cell? ⟨(ad.add (i.toNat * 6)).block, (ad.add (i.toNat * 6)).off + 1, none⟩ = some (.slice A1 (rd_T31 xs i).f1.length c1) ∧ w.cell? ⟨(ad.add (i.toNat * 6)).block, (ad.add (i.toNat * 6)).off + 2, none⟩ = some (.slice A2 (rd_T31 xs i).f2.length c2) ∧ w.cell? ⟨(ad.add (i.toNat * 6)).block, (ad.add (i.toNat * 6)).off + 3, none⟩ = some (.slice A3 (rd_T31 xs i).f3.length c3) ∧ w.cell? ⟨(ad.add (i.toNat * 6)).block, (ad.add (i.toNat * 6)).off + 4, none⟩ = some (.string (rd_T31 xs i).f4) ∧ w.cell? ⟨(ad.add (i.toNat * 6)).block, (ad.add (i.toNat * 6)).off + 5, none⟩ = some (.string (rd_T31 xs i).f5) ∧ (rd_T31 xs i).f0.length ≤ c0 ∧ Kd.string.C w A0 (rd_T31 xs i).f0.length (rd_T31 xs i).f0 ∧ (rd_T31 xs i).f1.length ≤ c1 ∧ Kd.string.C w A1 (rd_T31 xs i).f1.length (rd_T31 xs i).f1 ∧ (rd_T31 xs i).f2.length ≤ c2 ∧ Kd.string.C w A2 (rd_T31 xs i).f2.length (rd_T31 xs i).f2 ∧ (rd_T31 xs i).f3.length ≤ c3 ∧ Kd.string.C w A3 (rd_T31 xs i).f3.length (rd_T31 xs i).f3 := by
  obtain ⟨ad, c, e, _, hK, hc0⟩ := Kd.C_get h z31 i h0 h1
  have hc : ∀ j u, c[j]? = some u → w.cell? (ad.add (i.toNat * 6 + j)) = some u := hc0
  obtain ⟨A0, c0, A1, c1, A2, c2, A3, c3, rfl, l0, g0, l1, g1, l2, g2, l3, g3⟩ := k31_open hK
  exact ⟨ad, A0, c0, A1, c1, A2, c2, A3, c3, e, hc 0 _ rfl, by rw [← add_field _ _ 1 (by omega)]; exact hc 1 _ rfl, by rw [← add_field _ _ 2 (by omega)]; exact hc 2 _ rfl, by rw [← add_field _ _ 3 (by omega)]; exact hc 3 _ rfl, by rw [← add_field _ _ 4 (by omega)]; exact hc 4 _ rfl, by rw [← add_field _ _ 5 (by omega)]; exact hc 5 _ rfl, l0, g0, l1, g1, l2, g2, l3, g3⟩
structure S67 where
  f0 : (List ByteArray)
  f1 : (List ByteArray)
  f2 : (List ByteArray)
  f3 : (List ByteArray)
  f4 : ByteArray
  f5 : ByteArray
def z67 : S67 := ⟨([] : List ByteArray), ([] : List ByteArray), ([] : List ByteArray), ([] : List ByteArray), (⟨#[]⟩ : ByteArray), (⟨#[]⟩ : ByteArray)⟩
def k67 : Kd S67 := Kd.iso (Kd.pair (Kd.slice 9 Kd.string) (Kd.pair (Kd.slice 9 Kd.string) (Kd.pair (Kd.slice 9 Kd.string) (Kd.pair (Kd.slice 9 Kd.string) (Kd.pair Kd.string Kd.string))))) (fun x : S67 => (x.f0, x.f1, x.f2, x.f3, x.f4, x.f5))
theorem k67_open {w : World} {x : S67} {cs : List Value} (h : k67.K w x cs) : ∃ A0 c0 A1 c1 A2 c2 A3 c3, cs = [.slice A0 x.f0.length c0, .slice A1 x.f1.length c1, .slice A2 x.f2.length c2, .slice A3 x.f3.length c3, .string x.f4, .string x.f5] ∧ x.f0.length ≤ c0 ∧ Kd.string.C w A0 x.f0.length x.f0 ∧ x.f1.length ≤ c1 ∧ Kd.string.C w A1 x.f1.length x.f1 ∧ x.f2.length ≤ c2 ∧ Kd.string.C w A2 x.f2.length x.f2 ∧ x.f3.length ≤ c3 ∧ Kd.string.C w A3 x.f3.length x.f3 := by
  obtain ⟨_, _, rfl, ⟨A0, c0, rfl, l0, g0⟩, ⟨_, _, rfl, ⟨A1, c1, rfl, l1, g1⟩, ⟨_, _, rfl, ⟨A2, c2, rfl, l2, g2⟩, ⟨_, _, rfl, ⟨A3, c3, rfl, l3, g3⟩, ⟨_, _, rfl, rfl, rfl⟩⟩⟩⟩⟩ := h
  exact ⟨A0, c0, A1, c1, A2, c2, A3, c3, rfl, l0, g0, l1, g1, l2, g2, l3, g3⟩
theorem k67_mk (w : World) (x : S67) {A0 : Option Addr} {c0 : Nat} (l0 : x.f0.length ≤ c0) (g0 : Kd.string.C w A0 x.f0.length x.f0) {A1 : Option Addr} {c1 : Nat} (l1 : x.f1.length ≤ c1) (g1 : Kd.string.C w A1 x.f1.length x.f1) {A2 : Option Addr} {c2 : Nat} (l2 : x.f2.length ≤ c2) (g2 : Kd.string.C w A2 x.f2.length x.f2) {A3 : Option Addr} {c3 : Nat} (l3 : x.f3.length ≤ c3) (g3 : Kd.string.C w A3 x.f3.length x.f3) : k67.K w x [.slice A0 x.f0.length c0, .slice A1 x.f1.length c1, .slice A2 x.f2.length c2, .slice A3 x.f3.length c3, .string x.f4, .string x.f5] := ⟨[.slice A0 x.f0.length c0], [.slice A1 x.f1.length c1, .slice A2 x.f2.length c2, .slice A3 x.f3.length c3, .string x.f4, .string x.f5], rfl, ⟨A0, c0, rfl, l0, g0⟩, ⟨[.slice A1 x.f1.length c1], [.slice A2 x.f2.length c2, .slice A3 x.f3.length c3, .string x.f4, .string x.f5], rfl, ⟨A1, c1, rfl, l1, g1⟩, ⟨[.slice A2 x.f2.length c2], [.slice A3 x.f3.length c3, .string x.f4, .string x.f5], rfl, ⟨A2, c2, rfl, l2, g2⟩, ⟨[.slice A3 x.f3.length c3], [.string x.f4, .string x.f5], rfl, ⟨A3, c3, rfl, l3, g3⟩, ⟨[.string x.f4], [.string x.f5], rfl, rfl, rfl⟩⟩⟩⟩⟩
def rd_T67 (xs : List S67) (i : Int) : S67 := xs.getD i.toNat z67
theorem at_T67 {w : World} {A : Option Addr} {n : Nat} {xs : List S67} (h : Kd.C k67 w A n xs) (i : Int) (h0 : 0 ≤ i) (h1 : i < n) : ∃ ad A0 c0 A1 c1 A2 c2 A3 c3, A = some ad ∧ w.cell? (ad.add (i.toNat * 6)) = some (.slice A0 (rd_T67 xs i).f0.length c0) ∧ w.cell? ⟨(ad.add (i.toNat * 6)).block, (ad.add (i.toNat * 6)).off + 1, none⟩ = some (.slice A1 (rd_T67 xs i).f1.length c1) ∧ w.cell? ⟨(ad.add (i.toNat * 6)).block, (ad.add (i.toNat * 6)).off + 2, none⟩ = some (.slice A2 (rd_T67 xs i).f2.length c2) ∧ w.cell? ⟨(ad.add (i.toNat * 6)).block, (ad.add (i.toNat * 6)).off + 3, none⟩ = some (.slice A3 (rd_T67 xs i).f3.length c3) ∧ w.cell? ⟨(ad.add (i.toNat * 6)).block, (ad.add (i.toNat * 6)).off + 4, none⟩ = some (.string (rd_T67 xs i).f4) ∧ w.cell? ⟨(ad.add (i.toNat * 6)).block, (ad.add (i.toNat * 6)).off + 5, none⟩ = some (.string (rd_T67 xs i).f5) ∧ (rd_T67 xs i).f0.length ≤ c0 ∧ Kd.string.C w A0 (rd_T67 xs i).f0.length (rd_T67 xs i).f0 ∧ (rd_T67 xs i).f1.length ≤ c1 ∧ Kd.string.C w A1 (rd_T67 xs i).f1.length (rd_T67 xs i).f1 ∧ (rd_T67 xs i).f2.length ≤ c2 ∧ Kd.string.C w A2 (rd_T67 xs i).f2.length (rd_T67 xs i).f2 ∧ (rd_T67 xs i).f3.length ≤ c3 ∧ Kd.string.C w A3 (rd_T67 xs i).f3.length (rd_T67 xs i).f3 := by
  obtain ⟨ad, c, e, _, hK, hc0⟩ := Kd.C_get h z67 i h0 h1
  have hc : ∀ j u, c[j]? = some u → w.cell? (ad.add (i.toNat * 6 + j)) = some u := hc0
  obtain ⟨A0, c0, A1, c1, A2, c2, A3, c3, rfl, l0, g0, l1, g1, l2, g2, l3, g3⟩ := k67_open hK
  exact ⟨ad, A0, c0, A1, c1, A2, c2, A3, c3, e, hc 0 _ rfl, by rw [← add_field _ _ 1 (by omega)]; exact hc 1 _ rfl, by rw [← add_field _ _ 2 (by omega)]; exact hc 2 _ rfl, by rw [← add_field _ _ 3 (by omega)]; exact hc 3 _ rfl, by rw [← add_field _ _ 4 (by omega)]; exact hc 4 _ rfl, by rw [← add_field _ _ 5 (by omega)]; exact hc 5 _ rfl, l0, g0, l1, g1, l2, g2, l3, g3⟩
end Go.Proofs.YteniakfclkdlfaaDoor.P
end
section
set_option linter.unusedSimpArgs false
set_option linter.unusedVariables false
namespace Go.Proofs.YteniakfclkdlfaaDoor.Mf
open Go.RowKit Go.Lib Go.Shelf Go.Proofs.YteniakfclkdlfaaDoorW.PrintWords Go.Proofs.YteniakfclkdlfaaDoor.U Go.Proofs.YteniakfclkdlfaaDoor.Sc Go.Proofs.YteniakfclkdlfaaDoor.P
set_option maxRecDepth 100000 in
set_option maxHeartbeats 2000000 in
theorem sign_any (t : Txt) (w : World) : Calls Tryd.prog 77 #[.string (B t)] w fun e w' => e = .returned (.bool (isSign t)) ∧ w = w' := by
  go_enter Tryd.func77, Tryd.ntmps77
  go_wp2
  all_goals
    go_ret
    exact ⟨by simp [isSign, *], rfl⟩
theorem str_at {w : World} {A : Option Addr} {ws : List Txt} (h : Kd.C Kd.string w A ws.length (ws.map B)) (i : Nat) (hi : i < ws.length) :
    ∃ ad, A = some ad ∧ w.cell? (ad.add i) = some (.string (B ws[i])) := by
  obtain ⟨ad, rfl, hcell⟩ := h.2.2 (by omega)
  obtain ⟨c, _, hK, hv⟩ := hcell i (B ws[i]) (by rw [List.getElem?_map, List.getElem?_eq_getElem hi]; rfl)
  have hK' : c = [.string (B ws[i])] := hK
  subst hK'
  refine ⟨ad, rfl, ?_⟩
  have := hv 0 (.string (B ws[i])) rfl
  rwa [show i * Kd.string.sz + 0 = i by show i * 1 + 0 = i; omega] at this
structure Rd (w : World) (b line : Nat) (L : List Lev) (v : Value) : Prop where
  lt : b < w.heap.size
  c0 : w.cell? ⟨b, 0, none⟩ = some v
  c4 : w.cell? ⟨b, 4, none⟩ = some (.int .i64 (line : Int))
  ch : Chain w L v
theorem Rd.below {w w' : World} {b line : Nat} {L : List Lev} {v : Value} (h : Rd w b line L v) (hb : Below w.heap.size w w') : Rd w' b line L v :=
  ⟨Nat.lt_of_lt_of_le h.lt hb.size, (hb.cell (p := ⟨b, 0, none⟩) h.lt).trans h.c0, (hb.cell (p := ⟨b, 4, none⟩) h.lt).trans h.c4, h.ch.below hb⟩
theorem Rd.below' {w w' : World} {n b line : Nat} {L : List Lev} {v : Value} (h : Rd w b line L v) (hb : Below n w w') (hn : n = w.heap.size) : Rd w' b line L v := h.below (hn ▸ hb)
def GivesL (r : Except Er (List Txt)) (w : World) (e : Ending) (w' : World) : Prop :=
  match r with
  | .ok l => ∃ v, e = .returned v ∧ w'.ownsRow w.heap.size 9 1 v l.length (l.map fun t => Value.string (B t)) ∧ Below w.heap.size w w'
  | .error x => e = wr x.1 x.2 ∧ Below w.heap.size w w'
theorem GivesL.fin {r : Except Er (List Txt)} {w w' : World} {l : List Txt} {v : Value} (h : r = .ok l) (ho : w'.ownsRow w.heap.size 9 1 v l.length (l.map fun t => Value.string (B t))) (hb : Below w.heap.size w w') : GivesL r w (.returned v) w' := by
  subst h; exact ⟨v, rfl, ho, hb⟩
theorem GivesL.bad {r : Except Er (List Txt)} {w w' : World} {l : Nat} {c : Int} (h : r = .error (l, c)) (hb : Below w.heap.size w w') : GivesL r w (wr l c) w' := by
  subst h; exact ⟨rfl, hb⟩
set_option maxRecDepth 100000 in
set_option maxHeartbeats 8000000 in
theorem paths_any (b line : Nat) (s : Lev) (v : Value) (A : Option Addr) (c : Nat) (ws : List Txt) (w : World) (hR : Rd w b line [s] v) (hT : ∀ k, (getL [s] k).length < 1000000000)
    (hW : Kd.C Kd.string w A ws.length (ws.map B)) (hn : ws.length ≤ 1000000) (hl : ∀ t ∈ ws, t.length < 1000000000) :
    Calls Tryd.prog 55 #[.pointer (some ⟨b, 0, none⟩), .slice A ws.length c] w (GivesL (pathsE line s.m [] ws) w) := by
  obtain ⟨R, hRes⟩ : ∃ R, pathsE line s.m [] ws = R := ⟨_, rfl⟩
  rw [hRes]
  have hE0 : Hid (pathsE line s.m [] (ws.drop 0) = R) := by rw [List.drop_zero]; exact hRes
  obtain ⟨n, hN⟩ : ∃ n, ws.length = n := ⟨_, rfl⟩
  have hNH := Lib.hid hN
  have hRH := Lib.hid hR
  have hWH := Lib.hid hW
  have hLH := Lib.hid hl
  have hTH := Lib.hid hT
  rw [hN] at hn ⊢
  clear hRes hN hR hW hl hT
  go_enter Tryd.func55, Tryd.ntmps55
  go_wp2_with fail
  go_loopg [5, 10] n (fun gk s5 s10 wr => ∃ (i : Nat) (acc : List Txt), s10 = .int .i64 (i : Int) ∧ i + gk = n ∧ acc.length ≤ i ∧ Hid (wr.ownsRow w.heap.size 9 1 s5 acc.length (acc.map fun t => Value.string (B t))) ∧ Hid (Below w.heap.size w wr) ∧ Hid (pathsE line s.m acc (ws.drop i) = R))
  case atStart => exact ⟨0, [], rfl, Nat.zero_add _, Nat.le_refl _, own_nil _ _ _ _, Below.refl _ _, hE0⟩
  case round =>
    obtain ⟨i, acc, rfl, hik, hacc, hO, hB, hE⟩ := hrel
    cases gk with
    | zero =>
      obtain rfl : i = n := by omega
      have hlt : decide ((i : Int) < (i : Int)) = false := by simp
      have hR1 : Hid (R = .ok acc) := by
        show R = _
        have := hE.out
        rw [List.drop_of_length_le (by rw [hNH.out]; omega)] at this
        exact this.symm
      go_wp2_with fail
      go_ret
      exact GivesL.fin hR1.out hO.out hB.out
    | succ gk =>
      have hin : i < ws.length := by rw [hNH.out]; omega
      have hlt : decide ((i : Int) < (n : Int)) = true := by rw [decide_eq_true_iff]; omega
      have i1 : (0 : Int) ≤ (i : Int) := by omega
      have i2 : (i : Int) < (n : Int) := by omega
      obtain ⟨ad, hA, hc⟩ := str_at hWH.out i hin
      subst hA
      have hcb := Lib.hid ((hB.out.cell (World.block_lt_of_cell? w _ hc)).trans hc)
      have hdrop : Hid (ws.drop i = ws[i] :: ws.drop (i + 1)) := List.drop_eq_getElem_cons hin
      have hxl := hLH.out ws[i] (List.getElem_mem hin)
      have hRd := Lib.hid (hRH.out.below' hB.out rfl)
      have hEx : Hid (R = match pathE line s.m ws[i] with | .error e => .error e | .ok p => pathsE line s.m (acc ++ [p]) (ws.drop (i + 1))) := by
        show R = _
        rw [← hE.out, hdrop.out, pathsE]
        try rfl
      clear hE hdrop hc
      generalize ws[i] = x at *
      have hcell := hcb.out
      have hS := Lib.hid (fun W => sign_any x W)
      cases hsg : isSign x with
      | true =>
        have hR1 : Hid (R = .error (line, 10)) := by show R = _; rw [hEx.out, pathE, if_pos hsg]
        rw [hsg] at hS
        clear hsg hEx
        go_wp2_with fail
        refine (hS.out _).mono ?_
        rintro e w1 ⟨rfl, rfl⟩
        go_wp2_with fail
        refine (need_no b line 10 _ hRd.out.c4).mono ?_
        rintro e w1 ⟨rfl, rfl⟩
        exact ⟨rfl, GivesL.bad hR1.out hB.out⟩
      | false =>
        have hX := Lib.hid (fun W (h : Rd W b line [s] v) => expanded_any b line [s] v x W h.c4 h.lt hxl hTH.out h.ch)
        have hEx1 : Hid (R = match expE line [s.m] x with | .error e => .error e | .ok t => match cleanE line t with | .error e => .error e | .ok p => pathsE line s.m (acc ++ [p]) (ws.drop (i + 1))) := by
          show R = _
          rw [hEx.out, pathE, if_neg (by rw [hsg]; decide)]
          cases expE line [s.m] x <;> rfl
        rw [hsg] at hS
        clear hsg hEx
        have hc0 := hRd.out.c0
        rw [show ([s].map (·.m)) = [s.m] from rfl] at hX
        go_wp2_with fail
        refine (hS.out _).mono ?_
        rintro e w1 ⟨rfl, rfl⟩
        go_wp2_with fail
        refine (need_ok _ _ _).mono ?_
        rintro e w1 ⟨rfl, rfl⟩
        go_wp2_with fail
        cases hex : expE line [s.m] x with
        | error er =>
          obtain ⟨l1, c1⟩ := er
          rw [hex] at hX hEx1
          refine (hX.out _ hRd.out).mono ?_
          rintro e w1 ⟨rfl, hb1⟩
          exact ⟨rfl, GivesL.bad hEx1.out (hB.out.trans (hb1.mono hB.out.size))⟩
        | ok t =>
          rw [hex] at hX hEx1
          refine (hX.out _ hRd.out).mono ?_
          rintro e w1 ⟨rfl, hb1⟩
          have hRd1 := Lib.hid (hRd.out.below hb1)
          have hB1 := Lib.hid (hB.out.trans (hb1.mono hB.out.size))
          have hO1 := Lib.hid (own_move hO.out fun k hk => hb1.block k (own_lt hO.out k hk))
          have hCl := Lib.hid (fun W (h : Rd W b line [s] v) => mclean_any b line t W h.c4 h.lt)
          clear hX hb1 hO hB hRd hS hc0 hcell hcb
          go_wp2_with fail
          cases hcl : cleanE line t with
          | error er =>
            obtain ⟨l1, c1⟩ := er
            rw [hcl] at hCl
            have hR1 : Hid (R = .error (l1, c1)) := by show R = _; rw [hEx1.out]; simp only [hcl]
            refine (hCl.out _ hRd1.out).mono ?_
            rintro e w2 ⟨rfl, hb2⟩
            exact ⟨rfl, GivesL.bad hR1.out (hB1.out.trans (hb2.mono hB1.out.size))⟩
          | ok p =>
            rw [hcl] at hCl
            have hE2 : Hid (pathsE line s.m (acc ++ [p]) (ws.drop (i + 1)) = R) := by show _ = R; rw [hEx1.out]; simp only [hcl]
            clear hcl hex hEx1
            refine (hCl.out _ hRd1.out).mono ?_
            rintro e w2 ⟨rfl, hb2⟩
            have hB2 := Lib.hid (hB1.out.trans (hb2.mono hB1.out.size))
            have hO2 := Lib.hid (own_move hO1.out fun k hk => hb2.block k (own_lt hO1.out k hk))
            clear hb2 hO1 hB1 hRd1 hCl
            go_wp2_with (at_builtin; go_loud (refine print_append_cells (w0 := w) (W := w2) w.heap.size rfl _ _ 23 9 (.string ⟨#[]⟩) 1 16 rfl Tryd.underlying23 infoStr rfl (by decide) (by decide) u5 (acc.length) _ [.string (B p)] rfl rfl rfl (by intro u hu; rw [List.mem_singleton.1 hu]; rfl) hO2.out hB2.out hB2.out.size (by omega) ?_))
            intro v1 w3 ho3 hb3 _ _
            have hO3 : Hid (w3.ownsRow w.heap.size 9 1 v1 (acc ++ [p]).length ((acc ++ [p]).map fun t => Value.string (B t))) := by
              show World.ownsRow ..
              rw [List.length_append, List.map_append]; exact ho3
            have hB3 := Lib.hid hb3
            clear ho3 hb3
            go_wp2_with fail
            go_roundg gk
            case measure => omega
            case rel => exact ⟨i + 1, acc ++ [p], by go_num, by omega, by rw [List.length_append]; simp; omega, hO3, hB3, hE2⟩
end Go.Proofs.YteniakfclkdlfaaDoor.Mf
end
section
set_option linter.unusedSimpArgs false
set_option linter.unusedVariables false
namespace Go.Proofs.YteniakfclkdlfaaDoor.Mf
open Go.RowKit Go.Lib Go.Shelf Go.Proofs.YteniakfclkdlfaaDoorW.PrintWords Go.Proofs.YteniakfclkdlfaaDoor.U Go.Proofs.YteniakfclkdlfaaDoor.Sc Go.Proofs.YteniakfclkdlfaaDoor.P
theorem trim_any (p : Txt) (hp : p.length ≤ 1000000000) (W : World) : Calls Tryd.prog 48 #[.string (B p), .string ⟨#[32]⟩] W fun e w' => e = .returned (.string (B (trimB p 32))) ∧ Below W.heap.size W w' :=
  (Tryd.strings_Trim_one (B p) 32 (by decide) W (by rw [size_B]; omega)).mono fun e w' ⟨h1, h2⟩ => ⟨h1, by
    rcases h2 with rfl | rfl
    · exact Below.refl _ _
    · exact (Below.refl _ _).drew⟩
theorem cutL_le (c : UInt8) (l : Txt) : (cutL c l).1.length ≤ l.length ∧ (cutL c l).2.1.length ≤ l.length := cutL_len c l
set_option maxRecDepth 100000 in
set_option maxHeartbeats 4000000 in
theorem set_any (b line : Nat) (L : List Lev) (v : Value) (text : Txt) (hl : text.length ≤ 1000000) (w : World) (hR : Rd w b line L v) :
    Calls Tryd.prog 30 #[.pointer (some ⟨b, 0, none⟩), .string (B text)] w (Gives (setE line text) (fun p => .tuple #[.string (B p.1), .string (B p.2)]) w) := by
  have hC := Lib.hid (fun W => cut_any 61 text (by omega) W)
  have hln := cutL_le 61 text
  have hS : Hid (setE line text = if (cutL 61 text).2.2 = true ∧ nameL (trimB (cutL 61 text).1 32) = true then .ok (trimB (cutL 61 text).1 32, Lib.trimLeftB (cutL 61 text).2.1 32) else .error (line, 10)) := rfl
  generalize setE line text = R at *
  generalize cutL 61 text = q at *
  obtain ⟨n0, v0, is⟩ := q
  simp only at hC hln hS
  have hT := Lib.hid (fun W => trim_any n0 (by omega) W)
  have hN := Lib.hid (fun W => Name_any (trimB n0 32) W)
  have hL := Lib.hid (fun W => Ln.TrimLeft_any 32 (by decide) v0 W)
  have hRH := Lib.hid hR
  have hbl := hR.lt
  clear hln hR
  have fin : ∀ bo : Bool, Hid (R = if bo = true then .ok (trimB n0 32, Lib.trimLeftB v0 32) else .error (line, 10)) → (is = true → nameL (trimB n0 32) = bo) → (is = false → bo = false) →
      Calls Tryd.prog 30 #[.pointer (some ⟨b, 0, none⟩), .string (B text)] w (Gives R (fun p => .tuple #[.string (B p.1), .string (B p.2)]) w) := by
    intro bo hR2 h1 h2
    have hR2H := Lib.hid hR2.out
    clear hS hR2
    cases is with
    | false =>
      have hbo := h2 rfl
      subst hbo
      have hR3 : Hid (R = .error (line, 10)) := by show R = _; rw [hR2H.out, if_neg (by decide)]
      clear h1 h2 hR2H
      go_enter Tryd.func30, Tryd.ntmps30
      go_wp2_with fail
      refine (hC.out _).mono ?_
      rintro e w1 ⟨rfl, hb1⟩
      have hR1 := Lib.hid (hRH.out.below hb1)
      have hB1 := Lib.hid hb1
      clear hb1
      go_wp2_with fail
      refine (hT.out _).mono ?_
      rintro e w2 ⟨rfl, hb2⟩
      have hR2 := Lib.hid (hR1.out.below hb2)
      have hB2 := Lib.hid (hB1.out.trans (hb2.mono hB1.out.size))
      clear hb2
      go_wp2_with fail
      refine (need_no b line 10 _ hR2.out.c4).mono ?_
      rintro e w3 ⟨rfl, rfl⟩
      exact ⟨rfl, Gives.bad hR3.out hB2.out⟩
    | true =>
      have hnb := h1 rfl
      rw [hnb] at hN
      clear h1 h2 hnb
      cases bo with
      | false =>
        have hR3 : Hid (R = .error (line, 10)) := by show R = _; rw [hR2H.out, if_neg (by decide)]
        clear hR2H
        go_enter Tryd.func30, Tryd.ntmps30
        go_wp2_with fail
        refine (hC.out _).mono ?_
        rintro e w1 ⟨rfl, hb1⟩
        have hR1 := Lib.hid (hRH.out.below hb1)
        have hB1 := Lib.hid hb1
        clear hb1
        go_wp2_with fail
        refine (hT.out _).mono ?_
        rintro e w2 ⟨rfl, hb2⟩
        have hR2 := Lib.hid (hR1.out.below hb2)
        have hB2 := Lib.hid (hB1.out.trans (hb2.mono hB1.out.size))
        clear hb2
        go_wp2_with fail
        refine (hN.out _).mono ?_
        rintro e w3 ⟨rfl, hb3⟩
        have hR3' := Lib.hid (hR2.out.below hb3)
        have hB3 := Lib.hid (hB2.out.trans (hb3.mono hB2.out.size))
        clear hb3
        go_wp2_with fail
        refine (need_no b line 10 _ hR3'.out.c4).mono ?_
        rintro e w4 ⟨rfl, rfl⟩
        exact ⟨rfl, Gives.bad hR3.out hB3.out⟩
      | true =>
        have hR3 : Hid (R = .ok (trimB n0 32, Lib.trimLeftB v0 32)) := by show R = _; rw [hR2H.out, if_pos rfl]
        clear hR2H
        go_enter Tryd.func30, Tryd.ntmps30
        go_wp2_with fail
        refine (hC.out _).mono ?_
        rintro e w1 ⟨rfl, hb1⟩
        have hB1 := Lib.hid hb1
        clear hb1
        go_wp2_with fail
        refine (hT.out _).mono ?_
        rintro e w2 ⟨rfl, hb2⟩
        have hB2 := Lib.hid (hB1.out.trans (hb2.mono hB1.out.size))
        clear hb2
        go_wp2_with fail
        refine (hN.out _).mono ?_
        rintro e w3 ⟨rfl, hb3⟩
        have hB3 := Lib.hid (hB2.out.trans (hb3.mono hB2.out.size))
        clear hb3
        go_wp2_with fail
        refine (need_ok _ _ _).mono ?_
        rintro e w4 ⟨rfl, rfl⟩
        go_wp2_with fail
        refine (hL.out _).mono ?_
        rintro e w5 ⟨rfl, rfl⟩
        go_wp2_with fail
        go_ret2
        exact Gives.fin hR3.out hB3.out
  refine fin (is && nameL (trimB n0 32)) ?_ ?_ ?_
  · show R = _
    rw [hS.out]
    simp only [Bool.and_eq_true]
  · rintro rfl; rfl
  · rintro rfl; rfl
end Go.Proofs.YteniakfclkdlfaaDoor.Mf
end
section
set_option linter.unusedSimpArgs false
set_option linter.unusedVariables false
namespace Go.Proofs.YteniakfclkdlfaaDoor.Mf
open Go.RowKit Go.Lib Go.Shelf Go.Proofs.YteniakfclkdlfaaDoorW.PrintWords Go.Proofs.YteniakfclkdlfaaDoor.U Go.Proofs.YteniakfclkdlfaaDoor.Sc Go.Proofs.YteniakfclkdlfaaDoor.P
theorem ahead_len (sg : Txt) (ws : List Txt) : (ahead sg ws).length ≤ ws.length := (List.takeWhile_sublist _).length_le
theorem ahead_take (sg : Txt) (ws : List Txt) : ws.take (ahead sg ws).length = ahead sg ws := by
  induction ws with
  | nil => rfl
  | cons x r ih =>
    unfold ahead at ih ⊢
    by_cases h : x = sg
    · simp [List.takeWhile_cons, h]
    · simp [List.takeWhile_cons, h, ih]
theorem behind_drop (sg : Txt) (ws : List Txt) : ws.drop ((ahead sg ws).length + 1) = behind sg ws := by
  induction ws with
  | nil => rfl
  | cons x r ih =>
    unfold ahead behind at ih ⊢
    by_cases h : x = sg
    · simp [List.takeWhile_cons, List.dropWhile_cons, h]
    · simp [List.takeWhile_cons, List.dropWhile_cons, h, ih]
theorem ahead_found (sg : Txt) (ws : List Txt) : (sg ∈ ws ∧ (ahead sg ws).length < ws.length ∧ ws[(ahead sg ws).length]? = some sg) ∨ (sg ∉ ws ∧ ahead sg ws = ws ∧ behind sg ws = []) := by
  induction ws with
  | nil => exact .inr ⟨by simp, rfl, rfl⟩
  | cons x r ih =>
    unfold ahead behind at ih ⊢
    by_cases h : x = sg
    · exact .inl ⟨by simp [h], by simp [List.takeWhile_cons, h], by simp [List.takeWhile_cons, h]⟩
    · rcases ih with ⟨h1, h2, h3⟩ | ⟨h1, h2, h3⟩
      · exact .inl ⟨by simp [h1], by simp [List.takeWhile_cons, h, h2], by simp [List.takeWhile_cons, h, h3]⟩
      · exact .inr ⟨by simp [h1, Ne.symm h], by simp [List.takeWhile_cons, h, h2], by simp [List.dropWhile_cons, h, h3]⟩
theorem ahead_no (sg : Txt) (ws : List Txt) : sg ∉ ahead sg ws := by
  induction ws with
  | nil => simp [ahead]
  | cons x r ih =>
    unfold ahead at ih ⊢
    by_cases h : x = sg
    · simp [List.takeWhile_cons, h]
    · simp [List.takeWhile_cons, h, ih, Ne.symm h]
theorem idx_found (sg : Txt) (ws : List Txt) (h : sg ∈ ws) : idxOfS (ws.map B) (B sg) = ((ahead sg ws).length : Int) := by
  rcases ahead_found sg ws with ⟨_, h2, h3⟩ | ⟨h1, _⟩
  · have := idxOfS_hit (ws.map B) (ws.map B).length (ahead sg ws).length (B sg) (by rw [List.length_map]; exact h2) (Nat.le_refl _) (by
      rw [List.getD_eq_getElem?_getD, List.getElem?_map, h3]; rfl) (fun j hj hE => by
      have hjl : j < ws.length := by omega
      rw [List.getD_eq_getElem?_getD, List.getElem?_map, List.getElem?_eq_getElem hjl] at hE
      have hE2 : ws[j] = sg := B_inj hE
      apply ahead_no sg ws
      rw [← ahead_take sg ws]
      exact List.mem_take_iff_getElem.2 ⟨j, by omega, hE2⟩)
    rw [List.take_length] at this
    exact this
  · exact absurd h h1
theorem idx_lost (sg : Txt) (ws : List Txt) (h : sg ∉ ws) : idxOfS (ws.map B) (B sg) = -1 := by
  have := idxOfS_miss (ws.map B) (ws.map B).length (B sg) (fun j hj hE => by
    rw [List.length_map] at hj
    rw [List.getD_eq_getElem?_getD, List.getElem?_map, List.getElem?_eq_getElem hj] at hE
    exact h (B_inj hE ▸ List.getElem_mem hj))
  rw [List.take_length] at this
  exact this
theorem C_take {w : World} {A : Option Addr} {ws : List Txt} (h : Kd.C Kd.string w A ws.length (ws.map B)) (k : Nat) (hk : k ≤ ws.length) : Kd.C Kd.string w A k ((ws.take k).map B) := by
  refine ⟨by simp; omega, by have := h.2.1; omega, fun hp => ?_⟩
  obtain ⟨ad, hA, hc⟩ := h.2.2 (by omega)
  refine ⟨ad, hA, fun j p hj => hc j p ?_⟩
  rw [List.map_take, List.getElem?_take] at hj
  split at hj
  · exact hj
  · cases hj
theorem C_drop {w : World} {ad : Addr} {ws : List Txt} (h : Kd.C Kd.string w (some ad) ws.length (ws.map B)) (k : Nat) : Kd.C Kd.string w (some (ad.add k)) (ws.length - k) ((ws.drop k).map B) := by
  refine ⟨by simp, by have := h.2.1; omega, fun hp => ?_⟩
  obtain ⟨ad', hA, hc⟩ := h.2.2 (by omega)
  obtain rfl := Option.some.inj hA
  refine ⟨ad.add k, rfl, fun j p hj => ?_⟩
  rw [List.map_drop, List.getElem?_drop] at hj
  obtain ⟨c, h1, h2, h3⟩ := hc (k + j) p hj
  refine ⟨c, h1, h2, fun i u hu => ?_⟩
  rw [Addr.add_add]
  have := h3 i u hu
  have e : Kd.string.sz = 1 := rfl
  rw [e] at this ⊢
  rw [show k + (j * 1 + i) = (k + j) * 1 + i from by omega]
  exact this
theorem C_nil (w : World) (A : Option Addr) : Kd.C Kd.string w A 0 (([] : List Txt).map B) := ⟨rfl, Nat.zero_le _, fun h => absurd h (Nat.lt_irrefl 0)⟩
theorem idx_any {w : World} {A : Option Addr} {ws : List Txt} (c : Nat) (h : Kd.C Kd.string w A ws.length (ws.map B)) (sg : Txt) :
    Calls Tryd.prog 76 #[.slice A ws.length c, .string (B sg)] w fun e w' => e = .returned (.int .i64 (idxOfS (ws.map B) (B sg))) ∧ w = w' := by
  cases hl : ws.length with
  | zero =>
    obtain rfl := List.length_eq_zero_iff.1 hl
    exact (Tryd.slices_Index_string_empty A c (B sg) w).mono fun e w' ⟨h1, h2⟩ => ⟨h1, h2.symm⟩
  | succ n =>
    rw [← hl]
    obtain ⟨ad, rfl, _⟩ := str_at h 0 (by omega)
    have hplain : ad = ⟨ad.block, ad.off, none⟩ := by
      obtain ⟨ad', hA, hc⟩ := str_at h 0 (by omega)
      obtain rfl := Option.some.inj hA
      rw [show ad.add 0 = ad from by simp [Addr.add]] at hc
      obtain ⟨b, o, s⟩ := ad
      cases s with
      | none => rfl
      | some s =>
        unfold World.cell? at hc
        simp only [Option.isSome_some, if_true] at hc
        split at hc <;> cases hc
    have := Tryd.slices_Index_string ad.block ad.off ws.length c (ws.map B) (B sg) w (by simp) (by have := h.2.1; omega) (fun j hj => by
      rw [List.length_map] at hj
      obtain ⟨ad', hA, hc⟩ := str_at h j hj
      obtain rfl := Option.some.inj hA
      rw [List.getD_eq_getElem?_getD, List.getElem?_map, List.getElem?_eq_getElem hj]
      show _ = some (Value.string (B ws[j]))
      rw [← hc]
      congr 1
      rw [hplain]
      unfold Addr.add
      by_cases h0 : j = 0
      · subst h0; rfl
      · simp [h0])
    rw [← hplain] at this
    refine this.mono fun e w' ⟨h1, h2⟩ => ⟨?_, h2.symm⟩
    rw [h1]
    rw [List.take_of_length_le (by simp)]
def CutAs (O R : List Txt) (w : World) (e : Ending) (w' : World) : Prop :=
  ∃ A1 c1 A2 c2, e = .returned (.tuple #[.slice A1 O.length c1, .slice A2 R.length c2]) ∧
    (O.length ≤ c1 ∧ Kd.C Kd.string w' A1 O.length (O.map B)) ∧ (R.length ≤ c2 ∧ Kd.C Kd.string w' A2 R.length (R.map B)) ∧ Below w.heap.size w w'
def CutPost (sg : Txt) (ws : List Txt) (w : World) (e : Ending) (w' : World) : Prop := CutAs (ahead sg ws) (behind sg ws) w e w'
set_option maxRecDepth 100000 in
set_option maxHeartbeats 4000000 in
theorem mcut_any (A : Option Addr) (c : Nat) (ws : List Txt) (sg : Txt) (w : World) (hC : Kd.C Kd.string w A ws.length (ws.map B)) (hc : ws.length ≤ c) (hn : ws.length ≤ 1000000) :
    Calls Tryd.prog 54 #[.slice A ws.length c, .string (B sg)] w (CutPost sg ws w) := by
  have hI := Lib.hid (idx_any c hC sg)
  by_cases hm : sg ∈ ws
  · have hx := idx_found sg ws hm
    rw [hx] at hI
    obtain ⟨hkl, hks⟩ : (ahead sg ws).length < ws.length ∧ ws[(ahead sg ws).length]? = some sg := by
      rcases ahead_found sg ws with ⟨_, h1, h2⟩ | ⟨h1, _⟩
      · exact ⟨h1, h2⟩
      · exact absurd hm h1
    obtain ⟨ad, rfl, hq0⟩ := str_at hC 0 (by omega)
    clear hq0
    have h1 := Lib.hid (C_take hC (ahead sg ws).length (by omega))
    have h2 := Lib.hid (C_drop hC ((ahead sg ws).length + 1))
    rw [ahead_take] at h1
    rw [behind_drop] at h2
    have hbl : ws.length - ((ahead sg ws).length + 1) = (behind sg ws).length := by rw [← behind_drop, List.length_drop]
    have hP : ∀ w' e A2 c2, e = .returned (.tuple #[.slice (some ad) (ahead sg ws).length c, .slice A2 (behind sg ws).length c2]) → (behind sg ws).length ≤ c2 → (0 < (behind sg ws).length → A2 = some (ad.add ((ahead sg ws).length + 1))) → Below w.heap.size w w' → CutPost sg ws w e w' := by
      intro w' e A2 c2 he hc2 hA hb
      refine ⟨some ad, c, A2, c2, he, ⟨by omega, Kd.C_below h1.out hb⟩, ⟨hc2, ?_⟩, hb⟩
      by_cases h0 : 0 < (behind sg ws).length
      · rw [hA h0, ← hbl]; exact Kd.C_below h2.out hb
      · have : behind sg ws = [] := List.length_eq_zero_iff.1 (by omega)
        rw [this]; exact C_nil _ _
    have hPH := Lib.hid hP
    clear hP hx hks hm h1 h2 hC
    generalize (ahead sg ws).length = k at *
    generalize (behind sg ws).length = m at *
    generalize ws.length = n at *
    have hneg : decide ((k : Int) < 0) = false := by rw [decide_eq_false_iff_not]; omega
    have hA2 : Hid (∀ x : Option Addr, x = some ⟨ad.block, ad.off + (k + 1), none⟩ → x = some (ad.add (k + 1))) := by
      intro x hx
      rw [hx]; unfold Addr.add; rw [if_neg (by omega)]
    by_cases hkc : k + 1 = c
    · have hm0 : m = 0 := by omega
      have hmH := Lib.hid hm0
      subst hm0
      go_enter Tryd.func54, Tryd.ntmps54
      go_wp2_with fail
      refine hI.out.mono ?_
      rintro e w' ⟨rfl, rfl⟩
      go_wp2_with fail
      go_quiet (fail)
      go_wp2_with fail
      go_ret2
      exact hPH.out _ _ _ _ rfl (Nat.zero_le _) (fun h => absurd h (Nat.lt_irrefl 0)) (pw_below_drewN (Below.refl _ _) _)
    · go_enter Tryd.func54, Tryd.ntmps54
      go_wp2_with fail
      refine hI.out.mono ?_
      rintro e w' ⟨rfl, rfl⟩
      go_wp2_with fail
      go_quiet (fail)
      go_wp2_with fail
      go_ret2
      exact hPH.out _ _ _ _ rfl (by omega) (fun _ => hA2.out _ rfl) (pw_below_drewN (Below.refl _ _) _)
  · have hx := idx_lost sg ws hm
    rw [hx] at hI
    obtain ⟨ha, hbh⟩ : ahead sg ws = ws ∧ behind sg ws = [] := by
      rcases ahead_found sg ws with ⟨h1, _⟩ | ⟨_, h1⟩
      · exact absurd h1 hm
      · exact h1
    have hP : Hid (CutPost sg ws w (.returned (.tuple #[.slice A ws.length c, .slice none 0 0])) w) := by
      refine ⟨A, c, none, 0, by rw [ha, hbh]; rfl, ⟨by rw [ha]; exact hc, by rw [ha]; exact hC⟩, ⟨by rw [hbh]; exact Nat.zero_le _, by rw [hbh]; exact C_nil _ _⟩, Below.refl _ _⟩
    clear hx ha hbh hm hC
    generalize ws.length = n at *
    go_enter Tryd.func54, Tryd.ntmps54
    go_wp2_with fail
    refine hI.out.mono ?_
    rintro e w' ⟨rfl, rfl⟩
    go_wp2_with fail
    go_ret2
    exact hP.out
end Go.Proofs.YteniakfclkdlfaaDoor.Mf
end
section
set_option linter.unusedSimpArgs false
set_option linter.unusedVariables false
namespace Go.Proofs.YteniakfclkdlfaaDoor.Mf
open Go.RowKit Go.Lib Go.Shelf Go.Proofs.YteniakfclkdlfaaDoorW.PrintWords Go.Proofs.YteniakfclkdlfaaDoor.U Go.Proofs.YteniakfclkdlfaaDoor.Sc Go.Proofs.YteniakfclkdlfaaDoor.P Go.Proofs.YteniakfclkdlfaaDoor.MapV
inductive Role where
  | still
  | reader
  | fmap
  | rmap
  | tmap (i : Nat)
  | omap (j : Nat)
  | edge (j : Nat)
  | erow
  | drow
deriving DecidableEq
abbrev at0 (b : Nat) : Value := .pointer (some ⟨b, 0, none⟩)
structure Mem where
  role : Nat → Role
  r : Nat
  fb : Nat
  fm : Nat
  rm : Nat
  rb : Nat → Nat
  tb : Nat → Nat
  eb : Nat → Nat
  sb : Nat → Nat
  mb : Nat → Nat
  e0 : Nat → Value
  e1 : Nat → Value
  e2 : Nat → Value
  e3 : Nat → Value
  ve : Value
  vd : Value
  line : Nat
  vi : Value
  vo : Value
  n : Nat
structure SlA (B0 : Nat) (w : World) (g : Mem) (v : Value) (l : List Txt) : Prop where
  own : w.ownsRow B0 9 1 v l.length (l.map fun t => Value.string (B t))
  rl : ∀ b, v.ownBlock = some b → g.role b = .still
structure RuleAt (w : World) (g : Mem) (i : Nat) (r : RuleS) : Prop where
  rr : g.role (g.rb i) = .still
  rt : g.role (g.tb i) = .tmap i
  hb : w.heap[g.rb i]? = some (.cells #[.map (some (g.tb i)), .int .i64 (r.line : Int)] 86 (0, 0))
  ht : OwnsM w (g.tb i) g.n r.texts
  nm : nameL r.name = true
  sh : Short 16384 r.texts
def few (l : List Txt) : Prop := l.length ≤ 20000 ∧ ∀ t ∈ l, t.length ≤ 100
structure EdgeAt (B0 : Nat) (w : World) (g : Mem) (nr : Nat) (j : Nat) (e : EdgeS) : Prop where
  re : g.role (g.eb j) = .edge j
  rs : g.role (g.sb j) = .still
  rm : g.role (g.mb j) = .omap j
  he : w.heap[g.eb j]? = some (.cells #[g.e0 j, g.e1 j, g.e2 j, g.e3 j, .string (B []), .string (B []), at0 (g.rb e.rule), at0 (g.sb j), .int .i64 (e.line : Int)] 88 (0, 0))
  hs : w.heap[g.sb j]? = some (.cells #[at0 g.fb, .map (some (g.mb j))] 76 (0, 0))
  hm : OwnsM w (g.mb j) g.n e.own
  lt : e.rule < nr
  s0 : SlA B0 w g (g.e0 j) e.outs
  s1 : SlA B0 w g (g.e1 j) e.ins
  s2 : SlA B0 w g (g.e2 j) e.imp
  s3 : SlA B0 w g (g.e3 j) e.ord
  sh : Short 16384 e.own
  f0 : few e.outs
  f1 : few e.ins
def InnAt (w : World) (g : Mem) (st : St) : Prop :=
  (st.inner = 0 ∧ g.vi = .nilFunc ∧ g.vo = .pointer none) ∨
  (st.inner = 1 ∧ 0 < st.rules.length ∧ g.vo = at0 (g.rb (st.rules.length - 1)) ∧ ∃ p q, g.vi = .func (.func 52) #[] #[at0 p, at0 q] ∧ g.role p = .still ∧ g.role q = .still ∧
    w.heap[p]? = some (.cells #[at0 g.r] 51 (0, 0)) ∧ w.heap[q]? = some (.cells #[at0 (g.rb (st.rules.length - 1))] 57 (0, 0))) ∨
  (st.inner = 2 ∧ 0 < st.edges.length ∧ g.vo = .pointer none ∧ ∃ p q, g.vi = .func (.func 56) #[] #[at0 p, at0 q] ∧ g.role p = .still ∧ g.role q = .still ∧
    w.heap[p]? = some (.cells #[at0 (g.eb (st.edges.length - 1))] 63 (0, 0)) ∧ w.heap[q]? = some (.cells #[at0 g.r] 51 (0, 0)))
structure Inv (B0 : Nat) (w : World) (g : Mem) (st : St) : Prop where
  base : B0 ≤ w.heap.size
  new : ∀ b, g.role b ≠ .still → B0 ≤ b
  rr : g.role g.r = .reader
  hr : w.heap[g.r]? = some (.cells #[at0 g.fb, .map (some g.rm), g.ve, g.vd, .int .i64 (g.line : Int), g.vi, g.vo] 59 (0, 0))
  rf : g.role g.fb = .still
  hf : w.heap[g.fb]? = some (.cells #[.pointer none, .map (some g.fm)] 76 (0, 0))
  rfm : g.role g.fm = .fmap
  mf : OwnsM w g.fm g.n st.file
  sf : Short 16384 st.file
  rrm : g.role g.rm = .rmap
  mr : OwnsV w g.rm g.n (fun k => (ruleAt st.rules k).map fun i => at0 (g.rb i))
  rules : ∀ i (h : i < st.rules.length), RuleAt w g i st.rules[i]
  edges : ∀ j (h : j < st.edges.length), EdgeAt B0 w g st.rules.length j st.edges[j]
  ne : st.edges.length ≤ 200
  oe : w.ownsRow B0 63 1 g.ve st.edges.length ((List.range st.edges.length).map fun j => at0 (g.eb j))
  roe : ∀ b, g.ve.ownBlock = some b → g.role b = .erow
  od : w.ownsRow B0 9 1 g.vd st.defs.length (st.defs.map fun t => Value.string (B t))
  rod : ∀ b, g.vd.ownBlock = some b → g.role b = .drow
  nd : st.defs.length ≤ 400000000
  inn : InnAt w g st
structure Grow (nr ne : Nat) (X : Role → Prop) (w w' : World) (g g' : Mem) : Prop where
  size : w.heap.size ≤ w'.heap.size
  same : ∀ b, b < w.heap.size → ¬ X (g.role b) → w'.heap[b]? = w.heap[b]?
  role : ∀ b, b < w.heap.size → g'.role b = g.role b
  fb : g'.fb = g.fb
  rb : ∀ i, i < nr → g'.rb i = g.rb i ∧ g'.tb i = g.tb i
  eb : ∀ j, j < ne → g'.eb j = g.eb j ∧ g'.sb j = g.sb j ∧ g'.mb j = g.mb j ∧ g'.e0 j = g.e0 j ∧ g'.e1 j = g.e1 j ∧ g'.e2 j = g.e2 j ∧ g'.e3 j = g.e3 j
  n : g.n ≤ g'.n
theorem lt_blk {w : World} {b : Nat} {o : Obj} (h : w.heap[b]? = some o) : b < w.heap.size := (Array.getElem?_eq_some_iff.1 h).1
section
variable {B0 nr ne : Nat} {w w' : World} {g g' : Mem} {st : St} {X : Role → Prop}
theorem Grow.mono {nr' ne' : Nat} {Y : Role → Prop} (k : Grow nr ne X w w' g g') (h1 : nr' ≤ nr) (h2 : ne' ≤ ne) (h3 : ∀ r, X r → Y r) : Grow nr' ne' Y w w' g g' :=
  ⟨k.size, fun b hb hx => k.same b hb (fun e => hx (h3 _ e)), k.role, k.fb, fun i hi => k.rb i (by omega), fun j hj => k.eb j (by omega), k.n⟩
theorem Grow.blk (k : Grow nr ne X w w' g g') {b : Nat} {o : Obj} {r : Role} (h : w.heap[b]? = some o) (hr : g.role b = r) (hx : ¬ X r) : w'.heap[b]? = some o :=
  (k.same b (lt_blk h) (by rw [hr]; exact hx)).trans h
theorem Grow.mapM (k : Grow nr ne X w w' g g') {b n : Nat} {m : MapL} {r : Role} (h : OwnsM w b n m) (hr : g.role b = r) (hx : ¬ X r) : OwnsM w' b n m :=
  h.same (k.same b h.lt (by rw [hr]; exact hx))
theorem Grow.mapV (k : Grow nr ne X w w' g g') {b n : Nat} {m : MapVal} {r : Role} (h : OwnsV w b n m) (hr : g.role b = r) (hx : ¬ X r) : OwnsV w' b n m :=
  h.same (k.same b h.lt (by rw [hr]; exact hx))
theorem Grow.row (k : Grow nr ne X w w' g g') {e size n : Nat} {v : Value} {xs : List Value} {r : Role} (h : w.ownsRow B0 e size v n xs) (hr : ∀ b, v.ownBlock = some b → g.role b = r) (hx : ¬ X r) : w'.ownsRow B0 e size v n xs :=
  own_move h fun b hb => k.same b (own_lt h b hb) (by rw [hr b hb]; exact hx)
theorem Grow.rolev (k : Grow nr ne X w w' g g') {e size n : Nat} {v : Value} {xs : List Value} {r : Role} (h : w.ownsRow B0 e size v n xs) (hr : ∀ b, v.ownBlock = some b → g.role b = r) : ∀ b, v.ownBlock = some b → g'.role b = r :=
  fun b hb => (k.role b (own_lt h b hb)).trans (hr b hb)
theorem Grow.roleb (k : Grow nr ne X w w' g g') {b : Nat} {o : Obj} {r : Role} (h : w.heap[b]? = some o) (hr : g.role b = r) : g'.role b = r := (k.role b (lt_blk h)).trans hr
theorem SlA.grow {v : Value} {l : List Txt} (h : SlA B0 w g v l) (k : Grow nr ne X w w' g g') (hx : ¬ X .still) : SlA B0 w' g' v l := ⟨k.row h.own h.rl hx, k.rolev h.own h.rl⟩
theorem RuleAt.grow {i : Nat} {r : RuleS} (h : RuleAt w g i r) (k : Grow nr ne X w w' g g') (hi : i < nr) (hx : ¬ X .still) (hy : ¬ X (.tmap i)) : RuleAt w' g' i r := by
  obtain ⟨e1, e2⟩ := k.rb i hi
  refine ⟨?_, ?_, ?_, ?_, h.nm, h.sh⟩
  · rw [e1]; exact k.roleb h.hb h.rr
  · rw [e2]; exact (k.role _ h.ht.lt).trans h.rt
  · rw [e1, e2]; exact k.blk h.hb h.rr hx
  · rw [e2]; exact (k.mapM h.ht h.rt hy).mono k.n
theorem EdgeAt.grow {nr' j : Nat} {e : EdgeS} (h : EdgeAt B0 w g nr j e) (k : Grow nr ne X w w' g g') (hj : j < ne) (hn : nr ≤ nr') (hx : ¬ X .still) (hy : ¬ X (.omap j)) (hz : ¬ X (.edge j)) : EdgeAt B0 w' g' nr' j e := by
  obtain ⟨e1, e2, e3, e4, e5, e6, e7⟩ := k.eb j hj
  obtain ⟨e8, _⟩ := k.rb e.rule h.lt
  refine ⟨?_, ?_, ?_, ?_, ?_, ?_, Nat.lt_of_lt_of_le h.lt hn, ?_, ?_, ?_, ?_, h.sh, h.f0, h.f1⟩
  · rw [e1]; exact k.roleb h.he h.re
  · rw [e2]; exact k.roleb h.hs h.rs
  · rw [e3]; exact (k.role _ h.hm.lt).trans h.rm
  · rw [e1, e2, e4, e5, e6, e7, e8]; exact k.blk h.he h.re hz
  · rw [e2, e3, k.fb]; exact k.blk h.hs h.rs hx
  · rw [e3]; exact (k.mapM h.hm h.rm hy).mono k.n
  · rw [e4]; exact h.s0.grow k hx
  · rw [e5]; exact h.s1.grow k hx
  · rw [e6]; exact h.s2.grow k hx
  · rw [e7]; exact h.s3.grow k hx
theorem InnAt.grow (h : InnAt w g st) (k : Grow st.rules.length st.edges.length X w w' g g') (hx : ¬ X .still) (h1 : g'.r = g.r) (h2 : g'.vi = g.vi) (h3 : g'.vo = g.vo) : InnAt w' g' st := by
  rcases h with ⟨a1, a2, a3⟩ | ⟨a1, a2, a3, p, q, a4, a5, a6, a7, a8⟩ | ⟨a1, a2, a3, p, q, a4, a5, a6, a7, a8⟩
  · exact .inl ⟨a1, h2.trans a2, h3.trans a3⟩
  · have e := (k.rb (st.rules.length - 1) (by omega)).1
    exact .inr (.inl ⟨a1, a2, by rw [h3, a3, e], p, q, h2.trans a4, k.roleb a7 a5, k.roleb a8 a6, by rw [h1]; exact k.blk a7 a5 hx, by rw [e]; exact k.blk a8 a6 hx⟩)
  · have e := (k.eb (st.edges.length - 1) (by omega)).1
    exact .inr (.inr ⟨a1, a2, h3.trans a3, p, q, h2.trans a4, k.roleb a7 a5, k.roleb a8 a6, by rw [e]; exact k.blk a7 a5 hx, by rw [h1]; exact k.blk a8 a6 hx⟩)
theorem Grow.of_below (h : Below w.heap.size w w') : Grow nr ne X w w' g g := ⟨h.size, fun b hb _ => h.block b hb, fun _ _ => rfl, rfl, fun _ _ => ⟨rfl, rfl⟩, fun _ _ => ⟨rfl, rfl, rfl, rfl, rfl, rfl, rfl⟩, Nat.le_refl _⟩
theorem Inv.below (h : Inv B0 w g st) (hb : Below w.heap.size w w') : Inv B0 w' g st := by
  have k : Grow st.rules.length st.edges.length (fun _ => False) w w' g g := Grow.of_below hb
  exact ⟨Nat.le_trans h.base k.size, h.new, h.rr, k.blk h.hr h.rr id, h.rf, k.blk h.hf h.rf id, h.rfm, k.mapM h.mf h.rfm id, h.sf, h.rrm, k.mapV h.mr h.rrm id, fun i hi => (h.rules i hi).grow k hi id id, fun j hj => (h.edges j hj).grow k hj (Nat.le_refl _) id id id, h.ne,
    k.row h.oe h.roe id, h.roe, k.row h.od h.rod id, h.rod, h.nd, h.inn.grow k id rfl rfl rfl⟩
theorem Inv.fchain (h : Inv B0 w g st) : Chain w [⟨g.fb, g.fm, g.n, st.file⟩] (at0 g.fb) := ⟨rfl, _, h.hf, h.mf, rfl⟩
theorem Inv.cell (h : Inv B0 w g st) (i : Nat) : w.cell? ⟨g.r, i, none⟩ = #[at0 g.fb, .map (some g.rm), g.ve, g.vd, .int .i64 (g.line : Int), g.vi, g.vo][i]? := by rw [cell_of_heap h.hr]
theorem Inv.nostr (h : Inv B0 w g st) (o : Nat) (s : ByteArray) : w.cell? ⟨g.r, o, none⟩ ≠ some (.string s) := by
  rw [h.cell o]
  intro e
  rcases o with _ | _ | _ | _ | _ | _ | _ | o
  · cases e
  · cases e
  · have e' : g.ve = .string s := Option.some.inj e
    rcases h.oe.2 with ⟨q, _⟩ | ⟨_, _, _, q, _⟩ <;> rw [q] at e' <;> cases e'
  · have e' : g.vd = .string s := Option.some.inj e
    rcases h.od.2 with ⟨q, _⟩ | ⟨_, _, _, q, _⟩ <;> rw [q] at e' <;> cases e'
  · cases e
  · have e' : g.vi = .string s := Option.some.inj e
    rcases h.inn with ⟨_, q, _⟩ | ⟨_, _, _, _, _, q, _⟩ | ⟨_, _, _, _, _, q, _⟩ <;> rw [q] at e' <;> cases e'
  · have e' : g.vo = .string s := Option.some.inj e
    rcases h.inn with ⟨_, _, q⟩ | ⟨_, _, q, _⟩ | ⟨_, _, q, _⟩ <;> rw [q] at e' <;> cases e'
  · simp at e
theorem Inv.free (h : Inv B0 w g st) (i : Nat) : w.frozen? ⟨g.r, i, none⟩ = false := frozen_of_heap h.hr i
theorem Inv.rd (h : Inv B0 w g st) : Rd w g.r g.line [⟨g.fb, g.fm, g.n, st.file⟩] (at0 g.fb) := ⟨lt_blk h.hr, h.cell 0, h.cell 4, h.fchain⟩
theorem Inv.getL (h : Inv B0 w g st) : ∀ k, (getL [⟨g.fb, g.fm, g.n, st.file⟩] k).length < 1000000000 := fun k =>
  Nat.lt_of_le_of_lt (getL_short (M := 16384) (fun s hs => by rw [List.mem_singleton.1 hs]; exact h.sf) k) (by decide)
theorem Inv.reader (h : Inv B0 w g st) (hs : w.heap.size ≤ w'.heap.size) (hk : ∀ b, b < w.heap.size → b ≠ g.r → w'.heap[b]? = w.heap[b]?) (vi vo : Value) (line : Nat) (inner : Nat)
    (hr : w'.heap[g.r]? = some (.cells #[at0 g.fb, .map (some g.rm), g.ve, g.vd, .int .i64 (line : Int), vi, vo] 59 (0, 0)))
    (hi : InnAt w' { g with line := line, vi := vi, vo := vo } { st with inner := inner }) : Inv B0 w' { g with line := line, vi := vi, vo := vo } { st with inner := inner } := by
  have k : Grow st.rules.length st.edges.length (fun r => r = .reader) w w' g { g with line := line, vi := vi, vo := vo } :=
    ⟨hs, fun b hb hx => hk b hb (fun e => hx (by rw [e]; exact h.rr)), fun _ _ => rfl, rfl, fun _ _ => ⟨rfl, rfl⟩, fun _ _ => ⟨rfl, rfl, rfl, rfl, rfl, rfl, rfl⟩, Nat.le_refl _⟩
  exact ⟨Nat.le_trans h.base hs, h.new, h.rr, hr, h.rf, k.blk h.hf h.rf (by simp), h.rfm, k.mapM h.mf h.rfm (by simp), h.sf, h.rrm, k.mapV h.mr h.rrm (by simp),
    fun i hi => (h.rules i hi).grow k hi (by simp) (by simp), fun j hj => (h.edges j hj).grow k hj (Nat.le_refl _) (by simp) (by simp) (by simp), h.ne, k.row h.oe h.roe (by simp), h.roe, k.row h.od h.rod (by simp), h.rod, h.nd, hi⟩
end
def Steps (B0 : Nat) (g : Mem) (r : Except Er St) (w : World) (e : Ending) (w' : World) : Prop :=
  match r with
  | .ok st => e = .returned (.tuple #[]) ∧ (∃ g', Inv B0 w' g' st ∧ g'.r = g.r ∧ g'.n ≤ g.n + 1) ∧ Below B0 w w'
  | .error x => e = wr x.1 x.2 ∧ Below B0 w w'
theorem Steps.fin {B0 : Nat} {g g' : Mem} {r : Except Er St} {w w' : World} {st : St} (h : r = .ok st) (hi : Inv B0 w' g' st) (hr : g'.r = g.r) (hn : g'.n ≤ g.n + 1) (hb : Below B0 w w') : Steps B0 g r w (.returned (.tuple #[])) w' := by
  subst h; exact ⟨rfl, ⟨g', hi, hr, hn⟩, hb⟩
theorem Steps.bad {B0 : Nat} {g : Mem} {r : Except Er St} {w w' : World} {l : Nat} {c : Int} (h : r = .error (l, c)) (hb : Below B0 w w') : Steps B0 g r w (wr l c) w' := by
  subst h; exact ⟨rfl, hb⟩
end Go.Proofs.YteniakfclkdlfaaDoor.Mf
end
section
set_option linter.unusedSimpArgs false
set_option linter.unusedVariables false
namespace Go.Proofs.YteniakfclkdlfaaDoor.Mf
open Go.RowKit Go.Lib Go.Shelf Go.Maps Go.WideMaps Go.WideElems Go.Proofs.YteniakfclkdlfaaDoorW.PrintWords Go.Proofs.YteniakfclkdlfaaDoor.U Go.Proofs.YteniakfclkdlfaaDoor.Sc Go.Proofs.YteniakfclkdlfaaDoor.P Go.Proofs.YteniakfclkdlfaaDoor.MapV
theorem look0 {w : World} {b n : Nat} {m : MapL} (h : OwnsM w b n m) (k : Txt) (hk : k.length ≤ maxLen) :
    (Instr.lookup 74 (.map (some b)) (.string (B k)) false).run Tryd.prog w = .ok (.string (B ((m k).getD []))) w := by
  obtain ⟨D, h, h1, h2⟩ := h
  have hkey : keyOf Tryd.prog 9 (.string (B k)) = some (.string k) := keyOf_string_mk Tryd.underlying9 (by rw [size_B]; exact hk)
  obtain ⟨v, ps, hrun, hv⟩ := h.lookup skeyed Tryd.underlying74 (szero w) (plainElem_string Tryd.underlying9 (by decide)) hkey
  obtain ⟨s, rfl, hs, _⟩ := plainElem_string_inv Tryd.underlying9 hv
  have hat := (Prod.mk.inj hs).1
  rw [hrun]
  have : s = B ((m k).getD []) := by
    cases hm : m k with
    | none =>
      show s = B []
      have hn : Maps.has D (.string k) = false := by rw [h1 k, hm]; rfl
      rw [Maps.atKey_of_not_has hn] at hat
      have : ([] : List UInt8) = s.data.toList := Lit.string.inj (DataW.lit.inj hat)
      have e := B_of s
      rw [← this] at e
      exact e
    | some t =>
      show s = B t
      rw [h2 k t hm] at hat
      have : t = s.data.toList := Lit.string.inj (DataW.lit.inj hat)
      have e := B_of s
      rw [← this] at e
      exact e
  rw [this]
theorem _root_.Go.Proofs.YteniakfclkdlfaaDoor.Sc.OwnsM.made_at {w : World} {b : Nat} (h : w.heap[b]? = some (.map #[] 0)) : OwnsM w b 0 none0 := by
  obtain ⟨D, ⟨es, clock, h1, h2⟩, r⟩ := OwnsM.made w
  have h3 := heap_alloc_new w (.map #[] 0)
  rw [h3] at h1
  obtain ⟨rfl, rfl⟩ : es = #[] ∧ clock = 0 := by
    have := Option.some.inj h1
    injection this with a b
    exact ⟨a.symm, b.symm⟩
  exact ⟨D, ⟨_, _, h, h2⟩, r⟩
theorem last_get {α : Type} (l : List α) (h : 0 < l.length) : l.getLast? = some (l[l.length - 1]'(by omega)) := by
  rw [List.getLast?_eq_getElem?, List.getElem?_eq_getElem (by omega)]
theorem Inv.shut {B0 : Nat} {w : World} {g : Mem} {st : St} (h : Inv B0 w g st) :
    Inv B0 ((w.setCell ⟨g.r, 6, none⟩ (.pointer none)).setCell ⟨g.r, 5, none⟩ .nilFunc) { g with line := g.line, vi := .nilFunc, vo := .pointer none } { st with inner := 0 } := by
  have h1 := blk_put h.hr 6 (.pointer none) rfl
  have h2 := blk_put h1 5 .nilFunc rfl
  exact h.reader (by simp) (fun b _ hb => by rw [Below.heap_setCell _ _ _ b hb, Below.heap_setCell _ _ _ b hb]) .nilFunc (.pointer none) g.line 0 h2 (.inl ⟨rfl, rfl, rfl⟩)
theorem below_set2 {B0 : Nat} {w : World} {g i j : Nat} {u v : Value} (hg : B0 ≤ g) : Below B0 w ((w.setCell ⟨g, i, none⟩ u).setCell ⟨g, j, none⟩ v) := ((Below.refl _ _).setCell hg _).setCell hg _
end Go.Proofs.YteniakfclkdlfaaDoor.Mf
end
section
set_option linter.unusedSimpArgs false
set_option linter.unusedVariables false
namespace Go.Proofs.YteniakfclkdlfaaDoor.RegG
open Go
section
variable {P : Program} {ops : Array Oper} {Q : Exit → Act → World → Prop} {md : Region.Mode} {S : World → Prop} {k : Nat}
def wpAnyG (P : Program) (md : Region.Mode) (ops : Array Oper) (Q : Exit → Act → World → Prop) (S : World → Prop) (k : Nat) : Nat → Array Bool → Act → World → Prop
  | 0, listed, a, w => Region.ready md ops listed = [] ∧ Q .normal a w
  | fuel + 1, listed, a, w =>
    (Region.ready md ops listed = [] → Q .normal a w) ∧
    ∀ i ∈ Region.ready md ops listed, wpOp P ops Q i (fun a' w' => ((listed.setIfInBounds i true).getD k true = false → S w') ∧ wpAnyG P md ops Q S k fuel (listed.setIfInBounds i true) a' w') a w
theorem wpAny_of_G : ∀ (fuel : Nat) (listed : Array Bool) (a : Act) (w : World), wpAnyG P md ops Q S k fuel listed a w → wpAny P md ops Q fuel listed a w
  | 0, _, _, _, h => h
  | fuel + 1, _, _, _, h => ⟨h.1, fun i hi => wpOp_mono (fun a' w' h' => wpAny_of_G fuel _ a' w' h'.2) (h.2 i hi)⟩
def waits (md : Region.Mode) (ops : Array Oper) (k i : Nat) : Bool :=
  match ops[k]? with
  | some o => o.after.any fun e => Region.binds md e && e.on == i
  | none => true
theorem not_ready {i : Nat} {listed : Array Bool} (hk : waits md ops k i = true) (hi : listed.getD i true = false) (hr : k ∈ Region.ready md ops listed) : False := by
  obtain ⟨_, o, ho, h⟩ := mem_ready.1 hr
  unfold waits at hk
  rw [ho] at hk
  simp only at hk
  rw [Array.any_eq_true] at hk
  obtain ⟨n, hn, hb⟩ := hk
  rw [Bool.and_eq_true] at hb
  have h1 := h _ (Array.getElem_mem hn) hb.1
  rw [eq_of_beq hb.2] at h1
  rcases Nat.lt_or_ge i listed.size with h' | h'
  · simp [h'] at hi h1; rw [hi] at h1; cases h1
  · simp [Array.getElem?_eq_none h'] at h1
theorem wpAnyG_first {i : Nat} {oi : Oper} {v : Value} {T : World → Prop} (hik : i ≠ k) (hi : ops[i]? = some oi) (hsel : ∀ (j : Nat) (o : Oper) cs b, ops[j]? = some o → o.op ≠ .select cs b)
    (hQ : ∀ c a w, Q (.panic c) (a.put oi.dst v) w → Q (.panic c) a w) (hT : (∀ w, T w) ∨ (waits md ops k i = true ∧ ∀ w, S w → T w)) :
    ∀ (fuel : Nat) (listed : Array Bool) (a : Act) (w : World),
      (∀ j oj, ops[j]? = some oj → j ≠ i → listed.getD j true = false → (∀ e ∈ oj.after, Region.binds md e = true → e.on ≠ i) → oi.apart ops oj = true) →
      i ∈ Region.ready md ops listed → YieldsIf P ops T oi v a → T w → ((∀ w, T w) ∨ listed.getD k true = false) → (listed.getD k true = false → S w) →
      wpAnyG P md ops Q S k fuel (listed.setIfInBounds i true) (a.put oi.dst v) w → wpAnyG P md ops Q S k (fuel + 1) listed a w := by
  have hset : ∀ (listed : Array Bool) (w : World), (listed.getD k true = false → S w) → ((listed.setIfInBounds i true).getD k true = false → S w) := fun listed w h hk => by
    rw [getD_set_ne true hik] at hk; exact h hk
  intro fuel
  induction fuel with
  | zero =>
    intro listed a w _ hr hy hTw hS1 hS H
    refine ⟨fun h => (by rw [h] at hr; cases hr), fun j hj => ?_⟩
    by_cases hji : j = i
    · subst hji; exact hy.wpOp hi hTw ⟨hset listed w hS, H⟩
    · have := ready_mono hj hji
      rw [H.1] at this
      cases this
  | succ fuel ih =>
    intro listed a w hfree hr hy hTw hS1 hS H
    refine ⟨fun h => (by rw [h] at hr; cases hr), fun j hj => ?_⟩
    by_cases hji : j = i
    · subst hji; exact hy.wpOp hi hTw ⟨hset listed w hS, H⟩
    · have h1 := H.2 j (ready_mono hj hji)
      obtain ⟨hjun, oj, hoj, hall⟩ := mem_ready.1 hj
      have hnot : ∀ e ∈ oj.after, Region.binds md e = true → e.on ≠ i := fun e he hb heq => by
        have h1 := hall e he hb
        have h0 := (mem_ready.1 hr).1
        rw [heq] at h1
        rcases Nat.lt_or_ge i listed.size with h' | h'
        · simp [h'] at h0 h1; rw [h0] at h1; cases h1
        · simp [Array.getElem?_eq_none h'] at h1
      have h2 := wpOp_putIf (S := T) hoj (hfree j oj hoj hji hjun hnot) (fun cs b => hsel i oi cs b hi) (fun cs b => hsel j oj cs b hoj) hQ hy h1
      have hfree' : ∀ k ok, ops[k]? = some ok → k ≠ i → (listed.setIfInBounds j true).getD k true = false →
          (∀ e ∈ ok.after, Region.binds md e = true → e.on ≠ i) → oi.apart ops ok = true := fun k ok hk hki hun hno => by
        refine hfree k ok hk hki ?_ hno
        by_cases hjk : j = k
        · subst hjk; exact hjun
        · rw [getD_set_ne true hjk] at hun; exact hun
      refine wpOp_mono (fun a' w' h3 => ?_) h2
      obtain ⟨h4, h5, h6⟩ := h3
      rw [Array.setIfInBounds_comm _ _ (Ne.symm hji)] at h5 h6
      have hS' : (listed.setIfInBounds j true).getD k true = false → S w' := fun hk => h5 (by rw [getD_set_ne true hik]; exact hk)
      have hS1' : (∀ w, T w) ∨ (listed.setIfInBounds j true).getD k true = false := by
        rcases hT with h' | ⟨hw, _⟩
        · exact .inl h'
        · rcases hS1 with h | h
          · exact .inl h
          · refine .inr ?_
            have hjk : j ≠ k := fun e => by subst e; exact not_ready hw (mem_ready.1 hr).1 hj
            rw [getD_set_ne true hjk]; exact h
      have hT' : T w' := by
        rcases hT with h' | ⟨_, h'⟩
        · exact h' w'
        · rcases hS1' with h | h
          · exact h w'
          · exact h' w' (hS' h)
      exact ⟨hS', ih (listed.setIfInBounds j true) a' w' hfree' (ready_mono hr (Ne.symm hji)) h4 hT' hS1' hS' h6⟩
theorem takeP {i : Nat} {oi : Oper} {v : Value} {fuel : Nat} {listed : Array Bool} {a : Act} {w : World} (hi : ops[i]? = some oi) (hik : (i != k) = true)
    (hs : Region.noSelect ops = true) (hf : Region.free md ops listed i = true) (hr : (Region.ready md ops listed).contains i = true)
    (hQ : ∀ c a w, Q (.panic c) (a.put oi.dst v) w → Q (.panic c) a w) (hy : Region.wanted oi (yielded ops a.tmps) = true) (hv : ∀ w, (execOp a.eval oi).run P w = .ok (.value v) w) (hS : listed.getD k true = false → S w)
    (h : wpAnyG P md ops Q S k fuel (listed.setIfInBounds i true) (a.put oi.dst v) w) : wpAnyG P md ops Q S k (fuel + 1) listed a w :=
  wpAnyG_first (T := fun _ => True) (by simpa using hik) hi (Region.noSelect_spec hs) hQ (.inl fun _ => trivial) fuel listed a w (Region.free_spec hi hf) (by simpa using hr) (.inl ⟨hy, fun w _ => hv w⟩) trivial (.inl fun _ => trivial) hS h
theorem takeS {i : Nat} {oi : Oper} {v : Value} {fuel : Nat} {listed : Array Bool} {a : Act} {w : World} (hi : ops[i]? = some oi) (hik : (i != k) = true) (hw : waits md ops k i = true) (hk : listed.getD k true = false)
    (hs : Region.noSelect ops = true) (hf : Region.free md ops listed i = true) (hr : (Region.ready md ops listed).contains i = true)
    (hQ : ∀ c a w, Q (.panic c) (a.put oi.dst v) w → Q (.panic c) a w) (hy : Region.wanted oi (yielded ops a.tmps) = true) (hv : ∀ w, S w → (execOp a.eval oi).run P w = .ok (.value v) w) (hS : S w)
    (h : wpAnyG P md ops Q S k fuel (listed.setIfInBounds i true) (a.put oi.dst v) w) : wpAnyG P md ops Q S k (fuel + 1) listed a w :=
  wpAnyG_first (T := S) (by simpa using hik) hi (Region.noSelect_spec hs) hQ (.inr ⟨hw, fun _ h => h⟩) fuel listed a w (Region.free_spec hi hf) (by simpa using hr) (.inl ⟨hy, hv⟩) hS (.inr hk) (fun _ => hS) h
def AllG (P : Program) (md : Region.Mode) (ops : Array Oper) (Q : Exit → Act → World → Prop) (S : World → Prop) (k fuel : Nat) (listed : Array Bool) (a : Act) (w : World) (rs : List Nat) : Prop :=
  ∀ i ∈ rs, wpOp P ops Q i (fun a' w' => ((listed.setIfInBounds i true).getD k true = false → S w') ∧ wpAnyG P md ops Q S k fuel (listed.setIfInBounds i true) a' w') a w
theorem AllG.nil {fuel : Nat} {listed : Array Bool} {a : Act} {w : World} : AllG P md ops Q S k fuel listed a w [] := fun _ h => by cases h
theorem AllG.cons {fuel : Nat} {listed : Array Bool} {a : Act} {w : World} {i : Nat} {o : Oper} {rs : List Nat} (ho : ops[i]? = some o)
    (h : ∀ K' : Act → World → Prop, Shut (∀ a w, S w → (S w → wpAnyG P md ops Q S k fuel (listed.setIfInBounds i true) a w) → K' a w) → if Region.wanted o (yielded ops a.tmps) = true then Oper.wp P o a w K' Q else K' (a.put o.dst undef) w)
    (hs : AllG P md ops Q S k fuel listed a w rs) : AllG P md ops Q S k fuel listed a w (i :: rs) := fun j hj => by
  rcases List.mem_cons.1 hj with rfl | hj
  · exact wpOp_step ho (fun K' hK => h K' (fun a w hS hW => hK a w ⟨fun _ => hS, hW hS⟩))
  · exact hs j hj
theorem AllG.last {fuel : Nat} {listed : Array Bool} {a : Act} {w : World} {i : Nat} {o : Oper} {rs : List Nat} (hk : (listed.setIfInBounds i true).getD k true = true) (ho : ops[i]? = some o)
    (h : ∀ K' : Act → World → Prop, Shut (∀ a w, wpAnyG P md ops Q S k fuel (listed.setIfInBounds i true) a w → K' a w) → if Region.wanted o (yielded ops a.tmps) = true then Oper.wp P o a w K' Q else K' (a.put o.dst undef) w)
    (hs : AllG P md ops Q S k fuel listed a w rs) : AllG P md ops Q S k fuel listed a w (i :: rs) := fun j hj => by
  rcases List.mem_cons.1 hj with rfl | hj
  · exact wpOp_step ho (fun K' hK => h K' (fun a w hW => hK a w ⟨fun e => (by rw [hk] at e; cases e), hW⟩))
  · exact hs j hj
theorem readyG {rs : List Nat} {fuel : Nat} {listed : Array Bool} {a : Act} {w : World} (hr : Region.ready md ops listed = rs) (hne : rs ≠ [])
    (h : AllG P md ops Q S k fuel listed a w rs) : wpAnyG P md ops Q S k (fuel + 1) listed a w := ⟨fun h0 => absurd (hr ▸ h0) hne, hr ▸ h⟩
theorem doneG {listed : Array Bool} {a : Act} {w : World} (hr : Region.ready md ops listed = []) (h : Q .normal a w) :
    ∀ fuel, wpAnyG P md ops Q S k fuel listed a w
  | 0 => ⟨hr, h⟩
  | _ + 1 => ⟨fun _ => h, by rw [hr]; simp⟩
theorem regionG {id : Nat} {a : Act} {w : World} (S : World → Prop) (k : Nat) (hm : P.follows .mixedOrders = true) (hS : S w.drew)
    (h : S w.drew → wpAnyG P .any ops Q S k ops.size (Array.replicate ops.size false) a w.drew) : (Code.region id ops true).wp P Q a w :=
  wp_region_any hm (wpAny_of_G _ _ _ _ (h hS))
end
end Go.Proofs.YteniakfclkdlfaaDoor.RegG
end
