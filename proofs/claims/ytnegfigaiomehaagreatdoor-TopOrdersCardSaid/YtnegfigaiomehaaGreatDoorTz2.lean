/- Laid together by wip/tools/shake.py from texts of this claim: Shelf, CkTab, U, RegG, RegP, RegI, MapV, CkA, P0, CkFile, Range, Split, Fields, PathPlain, PathPred, Clean, PathTh, PPathRight0, PathFsD, DepPrint, CkSpec, CkFind, CkShape, CkArg, CkAll, CkRev, CkHex, CkSum. -/
import Derived.Test.YtnegfigaiomehaaGreatDoorTz1
import Derived.Shelf.Strings.Builder1
import Derived.Shelf.Strings.Builder2
import Derived.Shelf.Strings.OnBuilder
import Derived.Shelf.Small.Utf8
import Derived.Shelf.Small.Bits
import Derived.Shelf.Small.Strs
import Derived.Shelf.Small.Wraps
import Derived.Shelf.Strings.BuilderF
import Derived.Shelf.Strings.BuilderK
import Derived.Shelf.Strings.Builder2Cap
import Derived.Shelf.Strconv.Itoa0
import Derived.Shelf.Strings.Search1
import Derived.Shelf.Strings.Search2
import Derived.Shelf.Strings.Search3
import Derived.Shelf.LaysM
import Derived.Shelf.Strings.Shaped
import Derived.Shelf.Sort.Plain
import Derived.Shelf.GgClosure.StringsIndexFunc
import Derived.Ground.GgwProg
import Derived.Shelf.GgClosure.StringsIndexFuncTop
import Derived.Shelf.Strings.Prefix
import Derived.Shelf.Unicode.Decode
import Derived.Shelf.Strings.Runes
import Derived.Shelf.Bits.Mul64
import Derived.Shelf.Strings.Repeat
import Derived.Shelf.Unicode.DecodeSlow
import Derived.Shelf.Unicode.DecodeAny
import Derived.Shelf.Strings.FieldsFuncAny
import Derived.Shelf.Strings.FuncGrows
import Derived.Shelf.Strings.FieldsFuncGrows
import Derived.Shelf.Strings.BuilderCap
import Derived.Shelf.Slices.Turned
import Derived.Ground.Names2Prog
import Derived.Shelf.Slices.Clone
import Derived.Shelf.Slices.CompactS
import Derived.Shelf.Slices.SearchI
import Derived.Shelf.Slices.Cells
import Derived.Shelf.Slices.In.SortNone
import Derived.Ground.SlgnProg
import Derived.Shelf.SlicesE.Clone
import Derived.Test.YtnegfigaiomehaaGreatDoorProg
import Derived.Test.YtnegfigaiomehaaGreatDoorRows
import Derived.Lib.SmallJoins
import Derived.Lib.LaidTab
import Derived.LaidSub
import Derived.MakeChecks
import Derived.Lib.Hide
import Derived.Deep.RegionHeld3
import Derived.Maps.Own
import Derived.Maps.OwnSet
import Derived.Maps.OwnOps
import Derived.Maps.Views
import Derived.Maps.StringElems
import Derived.Maps.AppendAt
import Derived.Below
import Derived.ProofKit
import Derived.WideKeyEntry
import Derived.Lib.Builder
import Derived.OwnWalk
import Derived.Recover
import Derived.Defers
import Derived.Tactics2
import Derived.Deep.Draws
import Derived.Deep.AppendLies
import Derived.Laws.BytesArg
import Derived.Laws.MakeOwn
import Derived.Laws.OwnMore
import Derived.Deep.OwnRows
import Derived.Tactics
import Derived.Lib.ConvBytes
import Derived.Laws.Slices
import Derived.WalkKit
import Derived.KernelRfl
import Derived.RowKit3
import Derived.Deep.LoopGhost
import Derived.Deep.QuietTactic
import Derived.BigQuiet
import Derived.WideLaws
import Derived.Deep.DeepCutAuto
import Derived.Deep.CutBlock
import Derived.Laws.Rows
import Derived.Lib.AppendStr
import Derived.ArgAppend
import Derived.Laws.IdiomCopy
import Derived.OrdersHeld
import Derived.Laws.BitsLemmas
import Derived.RowKit
import Derived.RangeFuncNested
import Derived.RangeFuncBound
import Derived.RangeFuncCalls
import Derived.RangeFuncLeaves
import Derived.RangeFuncBox
import Derived.RangeFuncWrites
import Derived.Shelf.Abstract
import Derived.Shelf.RegionOpen
import Derived.OwnWalkIn
import Derived.TacticsInMore
import Derived.LoopNIn
import Derived.LoopIn
import Derived.Sort.LoopGhostIn
import Derived.Outline
import Derived.OneCell
import Derived.Lib.FieldsP
import Derived.WalkSpells
import Derived.Laws.Runes
import Derived.Lib.TrimAscii
import Derived.RegionTactic
import Derived.Deep.RegionWith
import Derived.WalkSmall
import Derived.Deep.DeepMust
import Derived.Laws.AppendOwn
import Derived.Lib.SliceRun
import Derived.Lib.Walk
import Derived.Laws.Bits64
set_option linter.unusedVariables false
set_option linter.unusedSimpArgs false
namespace Go.Proofs.YtnegfigaiomehaaGreatDoor
theorem gA {α : Type _} {xs : List α} {i : Nat} : xs.toArray[i]? = xs[i]? := List.getElem?_toArray
theorem gB {α : Type _} {a : α} {l : List α} {i : Nat} : (a :: l)[i + 1]? = l[i]? := List.getElem?_cons_succ
theorem gC {α : Type _} {a : α} {l : List α} : (a :: l)[0]? = some a := List.getElem?_cons_zero
theorem pA {α : Type _} {l : List α} {i : Nat} {a : α} : l.toArray.setIfInBounds i a = (l.set i a).toArray := List.setIfInBounds_toArray ..
theorem pB {α : Type _} {x : α} {xs : List α} {a : α} : (x :: xs).set 0 a = a :: xs := rfl
theorem pC {α : Type _} {x : α} {xs : List α} {n : Nat} {a : α} : (x :: xs).set (n + 1) a = x :: xs.set n a := rfl
end Go.Proofs.YtnegfigaiomehaaGreatDoor
section
namespace Go.Proofs
open Go.Shelf
def Tryz.lays156_ren : Go.Shelf.Ren := ⟨fun | 156 => 96 | 165 => 119 | 166 => 120 | 169 => 121 | 240 => 147 | 241 => 148 | 276 => 174 | 277 => 175 | n => n, fun | 31 => 23 | 9 => 9 | 3 => 3 | 4 => 4 | 0 => 0 | 20 => 20 | 72 => 165 | 76 => 169 | 70 => 163 | 37 => 37 | 75 => 168 | 127 => 193 | 164 => 217 | 5 => 5 | 80 => 171 | n => n, fun | n => n⟩
theorem Tryz.lays156 : Go.Proofs.Lays.n156 Tryz.prog Tryz.lays156_ren := {
 mixed := by kernel_rfl
 f156 := Tryz.func96.trans (congrArg some (by kernel_rfl))
 f165 := Tryz.func119.trans (congrArg some (by kernel_rfl))
 f166 := Tryz.func120.trans (congrArg some (by kernel_rfl))
 f169 := Tryz.func121.trans (congrArg some (by kernel_rfl))
 f240 := Tryz.func147.trans (congrArg some (by kernel_rfl))
 f241 := Tryz.func148.trans (congrArg some (by kernel_rfl))
 f276 := Tryz.func174.trans (congrArg some (by kernel_rfl))
 f277 := Tryz.func175.trans (congrArg some (by kernel_rfl))
 t0 := Tryz.underlying0
 a0 := Tryz.isAgg0
 z0 := Tryz.sizeOf0
 v0 := Tryz.zeroValue0
 t3 := Tryz.underlying3
 a3 := Tryz.isAgg3
 z3 := Tryz.sizeOf3
 v3 := Tryz.zeroValue3
 t4 := Tryz.underlying4
 a4 := Tryz.isAgg4
 z4 := Tryz.sizeOf4
 v4 := Tryz.zeroValue4
 t9 := Tryz.underlying9
 a9 := Tryz.isAgg9
 z9 := Tryz.sizeOf9
 v9 := Tryz.zeroValue9
 t20 := Tryz.underlying20
 a20 := Tryz.isAgg20
 z20 := Tryz.sizeOf20
 v20 := Tryz.zeroValue20
 t31 := Tryz.underlying23
 a31 := Tryz.isAgg23
 z31 := Tryz.sizeOf23
 v31 := Tryz.zeroValue23
 t37 := Tryz.underlying37
 a37 := Tryz.isAgg37
 z37 := Tryz.sizeOf37
 v37 := Tryz.zeroValue37
 t70 := Tryz.underlying163
 a70 := Tryz.isAgg163
 z70 := Tryz.sizeOf163
 v70 := Tryz.zeroValue163
 t72 := Tryz.underlying165
 a72 := Tryz.isAgg165
 z72 := Tryz.sizeOf165
 v72 := Tryz.zeroValue165
 t75 := Tryz.underlying168
 a75 := Tryz.isAgg168
 z75 := Tryz.sizeOf168
 v75 := Tryz.zeroValue168
 t76 := Tryz.underlying169
 a76 := Tryz.isAgg169
 z76 := Tryz.sizeOf169
 v76 := Tryz.zeroValue169
 t127 := Tryz.underlying193
 a127 := Tryz.isAgg193
 z127 := Tryz.sizeOf193
 v127 := Tryz.zeroValue193
 t164 := Tryz.underlying217
 a164 := Tryz.isAgg217
 z164 := Tryz.sizeOf217
 v164 := Tryz.zeroValue217 }
theorem Tryz.Builder_Extra_156 : Builder.Extra Tryz.prog Tryz.lays156_ren := {
 sizeBuilder := by kernel_rfl
 liesBuilder := by kernel_rfl
 t5 := Tryz.underlying5
 a5 := Tryz.isAgg5
 z5 := Tryz.sizeOf5
 v5 := Tryz.zeroValue5
 infoByte := by kernel_rfl
 cellsByte := by kernel_rfl
 sizeByte := by kernel_rfl
 neB5 := by decide }
open Go.RowKit in
theorem Tryz.strings_Join_none (a : Option Addr) (c : Nat) (sep : ByteArray) (w : World) :
  Calls Tryz.prog 96 #[.slice a 0 c, .string sep] w fun e w' => e = .returned (.string ⟨#[]⟩) ∧ w' = w := Any.strings_Join_none Tryz.lays156 Tryz.Builder_Extra_156 a c sep w
open Go.RowKit in
theorem Tryz.strings_Join (bk o c : Nat) (xs : List ByteArray) (sep : ByteArray) (w : World) (hcells : ∀ (j : Nat) x, xs[j]? = some x → w.cell? ⟨bk, o + j, none⟩ = some (.string x)) (hbk : bk < w.heap.size) (hN : xs.length ≤ 140737488355328) (hcap : xs.length ≤ c) (hlen : (Lib.join (xs.map (·.data.toList)) sep.data.toList).length ≤ 140737488355328) :
  Calls Tryz.prog 96 #[.slice (some ⟨bk, o, none⟩) xs.length c, .string sep] w fun e w' => e = .returned (.string ⟨(Lib.join (xs.map (·.data.toList)) sep.data.toList).toArray⟩) ∧ Below w.heap.size w w' := Any.strings_Join Tryz.lays156 Tryz.Builder_Extra_156 bk o c xs sep w hcells hbk hN hcap hlen
def Tryz.lays119_ren : Go.Shelf.Ren := ⟨fun | 119 => 195 | n => n, fun | 21 => 21 | 4 => 4 | n => n, fun | n => n⟩
theorem Tryz.lays119 : Go.Proofs.Lays.n119 Tryz.prog Tryz.lays119_ren := {
 mixed := by kernel_rfl
 f119 := Tryz.func195.trans (congrArg some (by kernel_rfl))
 t4 := Tryz.underlying4
 a4 := Tryz.isAgg4
 z4 := Tryz.sizeOf4
 v4 := Tryz.zeroValue4
 t21 := Tryz.underlying21
 a21 := Tryz.isAgg21
 z21 := Tryz.sizeOf21
 v21 := Tryz.zeroValue21 }
theorem Tryz.utf8_ValidRune (r : Int) (w : World) :
  Calls Tryz.prog 195 #[.int .i32 r] w fun e w' => e = .returned (.bool (Lib.validRune r)) ∧ w' = w := Any.utf8_ValidRune Tryz.lays119 r w
def Tryz.lays137_ren : Go.Shelf.Ren := ⟨fun | 137 => 194 | 217 => 198 | 266 => 200 | n => n, fun | 9 => 9 | 5 => 5 | 3 => 3 | n => n, fun | n => n⟩
theorem Tryz.lays137 : Go.Proofs.Lays.n137 Tryz.prog Tryz.lays137_ren := {
 mixed := by kernel_rfl
 f137 := Tryz.func194.trans (congrArg some (by kernel_rfl))
 f217 := Tryz.func198.trans (congrArg some (by kernel_rfl))
 f266 := Tryz.func200.trans (congrArg some (by kernel_rfl))
 t3 := Tryz.underlying3
 a3 := Tryz.isAgg3
 z3 := Tryz.sizeOf3
 v3 := Tryz.zeroValue3
 t5 := Tryz.underlying5
 a5 := Tryz.isAgg5
 z5 := Tryz.sizeOf5
 v5 := Tryz.zeroValue5
 t9 := Tryz.underlying9
 a9 := Tryz.isAgg9
 z9 := Tryz.sizeOf9
 v9 := Tryz.zeroValue9 }
open Go.RowKit in
theorem Tryz.strings_IndexByte (s : ByteArray) (c : Int) (w : World) :
  Calls Tryz.prog 194 #[.string s, .int .u8 c] w fun e w' => e = .returned (.int .i64 (Lib.indexByte s.data.toList c.toNat.toUInt8)) ∧ w' = w := Any.strings_IndexByte Tryz.lays137 s c w
def Tryz.lays143_ren : Go.Shelf.Ren := ⟨fun | 143 => 187 | 219 => 193 | 217 => 198 | 225 => 197 | 224 => 196 | 267 => 199 | 266 => 200 | 314 => 201 | n => n, fun | 9 => 9 | 3 => 3 | 4 => 4 | 5 => 5 | 46 => 127 | 146 => 210 | 51 => 76 | n => n, fun | 1 => 1 | n => n⟩
theorem Tryz.lays143 : Go.Proofs.Lays.n143 Tryz.prog Tryz.lays143_ren := {
 mixed := by kernel_rfl
 f143 := Tryz.func187.trans (congrArg some (by kernel_rfl))
 f217 := Tryz.func198.trans (congrArg some (by kernel_rfl))
 f219 := Tryz.func193.trans (congrArg some (by kernel_rfl))
 f224 := Tryz.func196.trans (congrArg some (by kernel_rfl))
 f225 := Tryz.func197.trans (congrArg some (by kernel_rfl))
 f266 := Tryz.func200.trans (congrArg some (by kernel_rfl))
 f267 := Tryz.func199.trans (congrArg some (by kernel_rfl))
 f314 := Tryz.func201.trans (congrArg some (by kernel_rfl))
 t3 := Tryz.underlying3
 a3 := Tryz.isAgg3
 z3 := Tryz.sizeOf3
 v3 := Tryz.zeroValue3
 t4 := Tryz.underlying4
 a4 := Tryz.isAgg4
 z4 := Tryz.sizeOf4
 v4 := Tryz.zeroValue4
 t5 := Tryz.underlying5
 a5 := Tryz.isAgg5
 z5 := Tryz.sizeOf5
 v5 := Tryz.zeroValue5
 t9 := Tryz.underlying9
 a9 := Tryz.isAgg9
 z9 := Tryz.sizeOf9
 v9 := Tryz.zeroValue9
 t46 := Tryz.underlying127
 a46 := Tryz.isAgg127
 z46 := Tryz.sizeOf127
 v46 := Tryz.zeroValue127
 t51 := Tryz.underlying76
 a51 := Tryz.isAgg76
 z51 := Tryz.sizeOf76
 v51 := Tryz.zeroValue76
 t146 := Tryz.underlying210
 a146 := Tryz.isAgg210
 z146 := Tryz.sizeOf210
 v146 := Tryz.zeroValue210
 g1 := by kernel_rfl }
open Go.RowKit Go.Lib in
theorem Tryz.strings_Index_one (s : ByteArray) (c : UInt8) (w : World) :
  Calls Tryz.prog 187 #[.string s, .string ⟨#[c]⟩] w fun e w' => e = .returned (.int .i64 (Lib.indexByte s.data.toList c)) ∧ w' = w := Any.strings_Index_one Tryz.lays143 s c w
def Tryz.lays189_ren : Go.Shelf.Ren := ⟨fun | 189 => 107 | 125 => 104 | 257 => 134 | 128 => 131 | 129 => 132 | 294 => 154 | 295 => 155 | 296 => 156 | 297 => 157 | 298 => 158 | 299 => 159 | 216 => 160 | 300 => 161 | 301 => 162 | 328 => 177 | 329 => 150 | 330 => 151 | 331 => 178 | 332 => 179 | 215 => 180 | 343 => 189 | n => n, fun | 28 => 57 | 3 => 3 | 46 => 127 | 0 => 0 | 51 => 76 | 53 => 158 | 4 => 4 | 183 => 175 | 182 => 174 | 131 => 60 | 5 => 5 | 9 => 9 | 218 => 194 | 222 => 198 | 228 => 220 | 229 => 221 | n => n, fun | n => n⟩
theorem Tryz.lays189 : Go.Proofs.Lays.n189 Tryz.prog Tryz.lays189_ren := {
 mixed := by kernel_rfl
 f125 := Tryz.func104.trans (congrArg some (by kernel_rfl))
 f128 := Tryz.func131.trans (congrArg some (by kernel_rfl))
 f129 := Tryz.func132.trans (congrArg some (by kernel_rfl))
 f189 := Tryz.func107.trans (congrArg some (by kernel_rfl))
 f215 := Tryz.func180.trans (congrArg some (by kernel_rfl))
 f216 := Tryz.func160.trans (congrArg some (by kernel_rfl))
 f257 := Tryz.func134.trans (congrArg some (by kernel_rfl))
 f294 := Tryz.func154.trans (congrArg some (by kernel_rfl))
 f295 := Tryz.func155.trans (congrArg some (by kernel_rfl))
 f296 := Tryz.func156.trans (congrArg some (by kernel_rfl))
 f297 := Tryz.func157.trans (congrArg some (by kernel_rfl))
 f298 := Tryz.func158.trans (congrArg some (by kernel_rfl))
 f299 := Tryz.func159.trans (congrArg some (by kernel_rfl))
 f300 := Tryz.func161.trans (congrArg some (by kernel_rfl))
 f301 := Tryz.func162.trans (congrArg some (by kernel_rfl))
 f328 := Tryz.func177.trans (congrArg some (by kernel_rfl))
 f329 := Tryz.func150.trans (congrArg some (by kernel_rfl))
 f330 := Tryz.func151.trans (congrArg some (by kernel_rfl))
 f331 := Tryz.func178.trans (congrArg some (by kernel_rfl))
 f332 := Tryz.func179.trans (congrArg some (by kernel_rfl))
 f343 := Tryz.func189.trans (congrArg some (by kernel_rfl))
 t0 := Tryz.underlying0
 a0 := Tryz.isAgg0
 z0 := Tryz.sizeOf0
 v0 := Tryz.zeroValue0
 t3 := Tryz.underlying3
 a3 := Tryz.isAgg3
 z3 := Tryz.sizeOf3
 v3 := Tryz.zeroValue3
 t4 := Tryz.underlying4
 a4 := Tryz.isAgg4
 z4 := Tryz.sizeOf4
 v4 := Tryz.zeroValue4
 t5 := Tryz.underlying5
 a5 := Tryz.isAgg5
 z5 := Tryz.sizeOf5
 v5 := Tryz.zeroValue5
 t9 := Tryz.underlying9
 a9 := Tryz.isAgg9
 z9 := Tryz.sizeOf9
 v9 := Tryz.zeroValue9
 t28 := Tryz.underlying57
 a28 := Tryz.isAgg57
 z28 := Tryz.sizeOf57
 v28 := Tryz.zeroValue57
 t46 := Tryz.underlying127
 a46 := Tryz.isAgg127
 z46 := Tryz.sizeOf127
 v46 := Tryz.zeroValue127
 t51 := Tryz.underlying76
 a51 := Tryz.isAgg76
 z51 := Tryz.sizeOf76
 v51 := Tryz.zeroValue76
 t53 := Tryz.underlying158
 a53 := Tryz.isAgg158
 z53 := Tryz.sizeOf158
 v53 := Tryz.zeroValue158
 t131 := Tryz.underlying60
 a131 := Tryz.isAgg60
 z131 := Tryz.sizeOf60
 v131 := Tryz.zeroValue60
 t182 := Tryz.underlying174
 a182 := Tryz.isAgg174
 z182 := Tryz.sizeOf174
 v182 := Tryz.zeroValue174
 t183 := Tryz.underlying175
 a183 := Tryz.isAgg175
 z183 := Tryz.sizeOf175
 v183 := Tryz.zeroValue175
 t218 := Tryz.underlying194
 a218 := Tryz.isAgg194
 z218 := Tryz.sizeOf194
 v218 := Tryz.zeroValue194
 t222 := Tryz.underlying198
 a222 := Tryz.isAgg198
 z222 := Tryz.sizeOf198
 v222 := Tryz.zeroValue198
 t228 := Tryz.underlying220
 a228 := Tryz.isAgg220
 z228 := Tryz.sizeOf220
 v228 := Tryz.zeroValue220
 t229 := Tryz.underlying221
 a229 := Tryz.isAgg221
 z229 := Tryz.sizeOf221
 v229 := Tryz.zeroValue221 }
open Go.Sort Go.RowKit in
theorem Tryz.slices_Sort_int (blk off cap : Nat) (zs : List Int) (w : World) (hH : Holds (Value.int .i64) w blk off zs.toArray) (hblk : blk < w.heap.size) (hsz : zs.length < 4611686018427387904) :
  Calls Tryz.prog 107 #[.slice (some ⟨blk, off, none⟩) zs.length cap] w fun e w' =>
   e = .returned (.tuple #[]) ∧ ∃ n os, w' = grow (putRow (Value.int .i64) (Sort.ahead w n) blk off (zs.mergeSort fun x y => decide (x ≤ y)).toArray) os := Any.slices_Sort_int Tryz.lays189 blk off cap zs w hH hblk hsz
def Tryz.lays190_ren : Go.Shelf.Ren := ⟨fun | 190 => 75 | 125 => 104 | 258 => 103 | 128 => 131 | 129 => 132 | 302 => 123 | 303 => 124 | 304 => 125 | 305 => 126 | 306 => 127 | 307 => 128 | 308 => 77 | 309 => 129 | 310 => 130 | 333 => 149 | 329 => 150 | 330 => 151 | 334 => 152 | 335 => 153 | 336 => 105 | 344 => 176 | n => n, fun | 31 => 23 | 9 => 9 | 3 => 3 | 46 => 127 | 0 => 0 | 51 => 76 | 53 => 158 | 4 => 4 | 183 => 175 | 182 => 174 | 131 => 60 | 5 => 5 | 218 => 194 | 222 => 198 | 228 => 220 | 229 => 221 | n => n, fun | n => n⟩
theorem Tryz.lays190 : Go.Proofs.Lays.n190 Tryz.prog Tryz.lays190_ren := {
 mixed := by kernel_rfl
 f125 := Tryz.func104.trans (congrArg some (by kernel_rfl))
 f128 := Tryz.func131.trans (congrArg some (by kernel_rfl))
 f129 := Tryz.func132.trans (congrArg some (by kernel_rfl))
 f190 := Tryz.func75.trans (congrArg some (by kernel_rfl))
 f258 := Tryz.func103.trans (congrArg some (by kernel_rfl))
 f302 := Tryz.func123.trans (congrArg some (by kernel_rfl))
 f303 := Tryz.func124.trans (congrArg some (by kernel_rfl))
 f304 := Tryz.func125.trans (congrArg some (by kernel_rfl))
 f305 := Tryz.func126.trans (congrArg some (by kernel_rfl))
 f306 := Tryz.func127.trans (congrArg some (by kernel_rfl))
 f307 := Tryz.func128.trans (congrArg some (by kernel_rfl))
 f308 := Tryz.func77.trans (congrArg some (by kernel_rfl))
 f309 := Tryz.func129.trans (congrArg some (by kernel_rfl))
 f310 := Tryz.func130.trans (congrArg some (by kernel_rfl))
 f329 := Tryz.func150.trans (congrArg some (by kernel_rfl))
 f330 := Tryz.func151.trans (congrArg some (by kernel_rfl))
 f333 := Tryz.func149.trans (congrArg some (by kernel_rfl))
 f334 := Tryz.func152.trans (congrArg some (by kernel_rfl))
 f335 := Tryz.func153.trans (congrArg some (by kernel_rfl))
 f336 := Tryz.func105.trans (congrArg some (by kernel_rfl))
 f344 := Tryz.func176.trans (congrArg some (by kernel_rfl))
 t0 := Tryz.underlying0
 a0 := Tryz.isAgg0
 z0 := Tryz.sizeOf0
 v0 := Tryz.zeroValue0
 t3 := Tryz.underlying3
 a3 := Tryz.isAgg3
 z3 := Tryz.sizeOf3
 v3 := Tryz.zeroValue3
 t4 := Tryz.underlying4
 a4 := Tryz.isAgg4
 z4 := Tryz.sizeOf4
 v4 := Tryz.zeroValue4
 t5 := Tryz.underlying5
 a5 := Tryz.isAgg5
 z5 := Tryz.sizeOf5
 v5 := Tryz.zeroValue5
 t9 := Tryz.underlying9
 a9 := Tryz.isAgg9
 z9 := Tryz.sizeOf9
 v9 := Tryz.zeroValue9
 t31 := Tryz.underlying23
 a31 := Tryz.isAgg23
 z31 := Tryz.sizeOf23
 v31 := Tryz.zeroValue23
 t46 := Tryz.underlying127
 a46 := Tryz.isAgg127
 z46 := Tryz.sizeOf127
 v46 := Tryz.zeroValue127
 t51 := Tryz.underlying76
 a51 := Tryz.isAgg76
 z51 := Tryz.sizeOf76
 v51 := Tryz.zeroValue76
 t53 := Tryz.underlying158
 a53 := Tryz.isAgg158
 z53 := Tryz.sizeOf158
 v53 := Tryz.zeroValue158
 t131 := Tryz.underlying60
 a131 := Tryz.isAgg60
 z131 := Tryz.sizeOf60
 v131 := Tryz.zeroValue60
 t182 := Tryz.underlying174
 a182 := Tryz.isAgg174
 z182 := Tryz.sizeOf174
 v182 := Tryz.zeroValue174
 t183 := Tryz.underlying175
 a183 := Tryz.isAgg175
 z183 := Tryz.sizeOf175
 v183 := Tryz.zeroValue175
 t218 := Tryz.underlying194
 a218 := Tryz.isAgg194
 z218 := Tryz.sizeOf194
 v218 := Tryz.zeroValue194
 t222 := Tryz.underlying198
 a222 := Tryz.isAgg198
 z222 := Tryz.sizeOf198
 v222 := Tryz.zeroValue198
 t228 := Tryz.underlying220
 a228 := Tryz.isAgg220
 z228 := Tryz.sizeOf220
 v228 := Tryz.zeroValue220
 t229 := Tryz.underlying221
 a229 := Tryz.isAgg221
 z229 := Tryz.sizeOf221
 v229 := Tryz.zeroValue221 }
open Go.Sort Go.RowKit in
theorem Tryz.slices_Sort_string (blk off cap : Nat) (ss : List (List UInt8)) (w : World) (hH : Holds encStr w blk off ss.toArray) (hblk : blk < w.heap.size) (hsz : ss.length < 4611686018427387904) :
  Calls Tryz.prog 75 #[.slice (some ⟨blk, off, none⟩) ss.length cap] w fun e w' =>
   e = .returned (.tuple #[]) ∧ ∃ n os, w' = grow (putRow encStr (Sort.ahead w n) blk off (ss.mergeSort fun x y => decide (x ≤ y)).toArray) os := Any.slices_Sort_string Tryz.lays190 blk off cap ss w hH hblk hsz
def Tryz.laysGw15_ren : Go.Shelf.Ren := ⟨fun | 15 => 143 | 20 => 172 | n => n, fun | 9 => 9 | 23 => 140 | 3 => 3 | 4 => 4 | 0 => 0 | 21 => 21 | n => n, fun | n => n⟩
theorem Tryz.laysGw15 : Go.Proofs.LaysGw.n15 Tryz.prog Tryz.laysGw15_ren := {
 mixed := by kernel_rfl
 f15 := Tryz.func143.trans (congrArg some (by kernel_rfl))
 f20 := Tryz.func172.trans (congrArg some (by kernel_rfl))
 t0 := Tryz.underlying0
 a0 := Tryz.isAgg0
 z0 := Tryz.sizeOf0
 v0 := Tryz.zeroValue0
 i0 := by kernel_rfl
 t3 := Tryz.underlying3
 a3 := Tryz.isAgg3
 z3 := Tryz.sizeOf3
 v3 := Tryz.zeroValue3
 i3 := by kernel_rfl
 t4 := Tryz.underlying4
 a4 := Tryz.isAgg4
 z4 := Tryz.sizeOf4
 v4 := Tryz.zeroValue4
 i4 := by kernel_rfl
 t9 := Tryz.underlying9
 a9 := Tryz.isAgg9
 z9 := Tryz.sizeOf9
 v9 := Tryz.zeroValue9
 i9 := by kernel_rfl
 t21 := Tryz.underlying21
 a21 := Tryz.isAgg21
 z21 := Tryz.sizeOf21
 v21 := Tryz.zeroValue21
 i21 := by kernel_rfl
 t23 := Tryz.underlying140
 a23 := Tryz.isAgg140
 z23 := Tryz.sizeOf140
 v23 := Tryz.zeroValue140
 i23 := by kernel_rfl }
def Tryz.lays206_ren : Go.Shelf.Ren := ⟨fun | 206 => 169 | n => n, fun | 9 => 9 | 4 => 4 | 3 => 3 | n => n, fun | n => n⟩
theorem Tryz.lays206 : Go.Proofs.Lays.n206 Tryz.prog Tryz.lays206_ren := {
 mixed := by kernel_rfl
 f206 := Tryz.func169.trans (congrArg some (by kernel_rfl))
 t3 := Tryz.underlying3
 a3 := Tryz.isAgg3
 z3 := Tryz.sizeOf3
 v3 := Tryz.zeroValue3
 t4 := Tryz.underlying4
 a4 := Tryz.isAgg4
 z4 := Tryz.sizeOf4
 v4 := Tryz.zeroValue4
 t9 := Tryz.underlying9
 a9 := Tryz.isAgg9
 z9 := Tryz.sizeOf9
 v9 := Tryz.zeroValue9 }
open Go.RowKit Go.Lib in
theorem Tryz.stringslite_HasPrefix (s p : ByteArray) (w : World) :
  Calls Tryz.prog 169 #[.string s, .string p] w fun e w' => e = .returned (.bool (Lib.hasPrefix s.data.toList p.data.toList)) ∧ w' = w := Any.stringslite_HasPrefix Tryz.lays206 s p w
def Tryz.lays99_ren : Go.Shelf.Ren := ⟨fun | 99 => 139 | 206 => 169 | n => n, fun | 9 => 9 | 4 => 4 | 3 => 3 | n => n, fun | n => n⟩
theorem Tryz.lays99 : Go.Proofs.Lays.n99 Tryz.prog Tryz.lays99_ren := {
 mixed := by kernel_rfl
 f99 := Tryz.func139.trans (congrArg some (by kernel_rfl))
 f206 := Tryz.func169.trans (congrArg some (by kernel_rfl))
 t3 := Tryz.underlying3
 a3 := Tryz.isAgg3
 z3 := Tryz.sizeOf3
 v3 := Tryz.zeroValue3
 t4 := Tryz.underlying4
 a4 := Tryz.isAgg4
 z4 := Tryz.sizeOf4
 v4 := Tryz.zeroValue4
 t9 := Tryz.underlying9
 a9 := Tryz.isAgg9
 z9 := Tryz.sizeOf9
 v9 := Tryz.zeroValue9 }
open Go.RowKit Go.Lib in
theorem Tryz.strings_HasPrefix (s p : ByteArray) (w : World) :
  Calls Tryz.prog 139 #[.string s, .string p] w fun e w' => e = .returned (.bool (Lib.hasPrefix s.data.toList p.data.toList)) ∧ w' = w := Any.strings_HasPrefix Tryz.lays99 s p w
def Tryz.lays102_ren : Go.Shelf.Ren := ⟨fun | 102 => 59 | 209 => 83 | 207 => 109 | n => n, fun | 9 => 9 | 4 => 4 | 3 => 3 | n => n, fun | n => n⟩
theorem Tryz.lays102 : Go.Proofs.Lays.n102 Tryz.prog Tryz.lays102_ren := {
 mixed := by kernel_rfl
 f102 := Tryz.func59.trans (congrArg some (by kernel_rfl))
 f207 := Tryz.func109.trans (congrArg some (by kernel_rfl))
 f209 := Tryz.func83.trans (congrArg some (by kernel_rfl))
 t3 := Tryz.underlying3
 a3 := Tryz.isAgg3
 z3 := Tryz.sizeOf3
 v3 := Tryz.zeroValue3
 t4 := Tryz.underlying4
 a4 := Tryz.isAgg4
 z4 := Tryz.sizeOf4
 v4 := Tryz.zeroValue4
 t9 := Tryz.underlying9
 a9 := Tryz.isAgg9
 z9 := Tryz.sizeOf9
 v9 := Tryz.zeroValue9 }
open Go.RowKit Go.Lib in
theorem Tryz.strings_TrimSuffix (s p : ByteArray) (w : World) (hs : s.size ≤ 9223372036854775807) :
  Calls Tryz.prog 59 #[.string s, .string p] w fun e w' => e = .returned (.string ⟨(Lib.trimSuffix s.data.toList p.data.toList).toArray⟩) ∧ w' = w := Any.strings_TrimSuffix Tryz.lays102 s p w hs
def Tryz.lays151_ren : Go.Shelf.Ren := ⟨fun | 151 => 173 | 152 => 188 | 137 => 194 | 119 => 195 | 224 => 196 | 225 => 197 | 217 => 198 | 266 => 200 | n => n, fun | 9 => 9 | 21 => 21 | 4 => 4 | 3 => 3 | 5 => 5 | 0 => 0 | 46 => 127 | n => n, fun | n => n⟩
theorem Tryz.lays151 : Go.Proofs.Lays.n151 Tryz.prog Tryz.lays151_ren := {
 mixed := by kernel_rfl
 f119 := Tryz.func195.trans (congrArg some (by kernel_rfl))
 f137 := Tryz.func194.trans (congrArg some (by kernel_rfl))
 f151 := Tryz.func173.trans (congrArg some (by kernel_rfl))
 f152 := Tryz.func188.trans (congrArg some (by kernel_rfl))
 f217 := Tryz.func198.trans (congrArg some (by kernel_rfl))
 f224 := Tryz.func196.trans (congrArg some (by kernel_rfl))
 f225 := Tryz.func197.trans (congrArg some (by kernel_rfl))
 f266 := Tryz.func200.trans (congrArg some (by kernel_rfl))
 t0 := Tryz.underlying0
 a0 := Tryz.isAgg0
 z0 := Tryz.sizeOf0
 v0 := Tryz.zeroValue0
 t3 := Tryz.underlying3
 a3 := Tryz.isAgg3
 z3 := Tryz.sizeOf3
 v3 := Tryz.zeroValue3
 t4 := Tryz.underlying4
 a4 := Tryz.isAgg4
 z4 := Tryz.sizeOf4
 v4 := Tryz.zeroValue4
 t5 := Tryz.underlying5
 a5 := Tryz.isAgg5
 z5 := Tryz.sizeOf5
 v5 := Tryz.zeroValue5
 t9 := Tryz.underlying9
 a9 := Tryz.isAgg9
 z9 := Tryz.sizeOf9
 v9 := Tryz.zeroValue9
 t21 := Tryz.underlying21
 a21 := Tryz.isAgg21
 z21 := Tryz.sizeOf21
 v21 := Tryz.zeroValue21
 t46 := Tryz.underlying127
 a46 := Tryz.isAgg127
 z46 := Tryz.sizeOf127
 v46 := Tryz.zeroValue127 }
open Go.RowKit Go.Lib in
theorem Tryz.strings_ContainsRune_ascii (s : ByteArray) (r : Int) (w : World) (h0 : 0 ≤ r) (h1 : r < 128) :
  Calls Tryz.prog 173 #[.string s, .int .i32 r] w fun e w' => e = .returned (.bool (decide (0 ≤ Lib.indexByte s.data.toList r.toNat.toUInt8))) ∧ w' = w := Any.strings_ContainsRune_ascii Tryz.lays151 s r w h0 h1
def Tryz.lays105_ren : Go.Shelf.Ren := ⟨fun | 105 => 116 | 212 => 138 | 99 => 139 | 165 => 119 | 166 => 120 | 170 => 140 | 169 => 121 | 263 => 167 | 264 => 168 | 206 => 169 | 240 => 147 | 241 => 148 | 276 => 174 | 277 => 175 | n => n, fun | 9 => 9 | 3 => 3 | 4 => 4 | 20 => 20 | 0 => 0 | 46 => 127 | 109 => 186 | 5 => 5 | 72 => 165 | 76 => 169 | 51 => 76 | 146 => 210 | 53 => 158 | 148 => 212 | 70 => 163 | 37 => 37 | 75 => 168 | 127 => 193 | 164 => 217 | 80 => 171 | n => n, fun | n => n⟩
theorem Tryz.lays105 : Go.Proofs.Lays.n105 Tryz.prog Tryz.lays105_ren := {
 mixed := by kernel_rfl
 f99 := Tryz.func139.trans (congrArg some (by kernel_rfl))
 f105 := Tryz.func116.trans (congrArg some (by kernel_rfl))
 f165 := Tryz.func119.trans (congrArg some (by kernel_rfl))
 f166 := Tryz.func120.trans (congrArg some (by kernel_rfl))
 f169 := Tryz.func121.trans (congrArg some (by kernel_rfl))
 f170 := Tryz.func140.trans (congrArg some (by kernel_rfl))
 f206 := Tryz.func169.trans (congrArg some (by kernel_rfl))
 f212 := Tryz.func138.trans (congrArg some (by kernel_rfl))
 f240 := Tryz.func147.trans (congrArg some (by kernel_rfl))
 f241 := Tryz.func148.trans (congrArg some (by kernel_rfl))
 f263 := Tryz.func167.trans (congrArg some (by kernel_rfl))
 f264 := Tryz.func168.trans (congrArg some (by kernel_rfl))
 f276 := Tryz.func174.trans (congrArg some (by kernel_rfl))
 f277 := Tryz.func175.trans (congrArg some (by kernel_rfl))
 t0 := Tryz.underlying0
 a0 := Tryz.isAgg0
 z0 := Tryz.sizeOf0
 v0 := Tryz.zeroValue0
 t3 := Tryz.underlying3
 a3 := Tryz.isAgg3
 z3 := Tryz.sizeOf3
 v3 := Tryz.zeroValue3
 t4 := Tryz.underlying4
 a4 := Tryz.isAgg4
 z4 := Tryz.sizeOf4
 v4 := Tryz.zeroValue4
 t5 := Tryz.underlying5
 a5 := Tryz.isAgg5
 z5 := Tryz.sizeOf5
 v5 := Tryz.zeroValue5
 t9 := Tryz.underlying9
 a9 := Tryz.isAgg9
 z9 := Tryz.sizeOf9
 v9 := Tryz.zeroValue9
 t20 := Tryz.underlying20
 a20 := Tryz.isAgg20
 z20 := Tryz.sizeOf20
 v20 := Tryz.zeroValue20
 t37 := Tryz.underlying37
 a37 := Tryz.isAgg37
 z37 := Tryz.sizeOf37
 v37 := Tryz.zeroValue37
 t46 := Tryz.underlying127
 a46 := Tryz.isAgg127
 z46 := Tryz.sizeOf127
 v46 := Tryz.zeroValue127
 t51 := Tryz.underlying76
 a51 := Tryz.isAgg76
 z51 := Tryz.sizeOf76
 v51 := Tryz.zeroValue76
 t53 := Tryz.underlying158
 a53 := Tryz.isAgg158
 z53 := Tryz.sizeOf158
 v53 := Tryz.zeroValue158
 t70 := Tryz.underlying163
 a70 := Tryz.isAgg163
 z70 := Tryz.sizeOf163
 v70 := Tryz.zeroValue163
 t72 := Tryz.underlying165
 a72 := Tryz.isAgg165
 z72 := Tryz.sizeOf165
 v72 := Tryz.zeroValue165
 t75 := Tryz.underlying168
 a75 := Tryz.isAgg168
 z75 := Tryz.sizeOf168
 v75 := Tryz.zeroValue168
 t76 := Tryz.underlying169
 a76 := Tryz.isAgg169
 z76 := Tryz.sizeOf169
 v76 := Tryz.zeroValue169
 t109 := Tryz.underlying186
 a109 := Tryz.isAgg186
 z109 := Tryz.sizeOf186
 v109 := Tryz.zeroValue186
 t127 := Tryz.underlying193
 a127 := Tryz.isAgg193
 z127 := Tryz.sizeOf193
 v127 := Tryz.zeroValue193
 t146 := Tryz.underlying210
 a146 := Tryz.isAgg210
 z146 := Tryz.sizeOf210
 v146 := Tryz.zeroValue210
 t148 := Tryz.underlying212
 a148 := Tryz.isAgg212
 z148 := Tryz.sizeOf212
 v148 := Tryz.zeroValue212
 t164 := Tryz.underlying217
 a164 := Tryz.isAgg217
 z164 := Tryz.sizeOf217
 v164 := Tryz.zeroValue217 }
theorem Tryz.Builder_Extra_105 : Builder.Extra Tryz.prog Tryz.lays105_ren := {
 sizeBuilder := by kernel_rfl
 liesBuilder := by kernel_rfl
 t5 := Tryz.underlying5
 a5 := Tryz.isAgg5
 z5 := Tryz.sizeOf5
 v5 := Tryz.zeroValue5
 infoByte := by kernel_rfl
 cellsByte := by kernel_rfl
 sizeByte := by kernel_rfl
 neB5 := by decide }
open Go.RowKit Go.Lib in
theorem Tryz.strings_Repeat (s : ByteArray) (c : Nat) (w : World) (hc : c ≤ 9223372036854775807) (hlen : s.size * c ≤ 140737488355328) :
  Calls Tryz.prog 116 #[.string s, .int .i64 c] w fun e w' => e = .returned (.string ⟨(Lib.repeatL s.data.toList c).toArray⟩) ∧ Below w.heap.size w w' := Any.strings_Repeat Tryz.lays105 Tryz.Builder_Extra_105 s c w hc hlen
def Tryz.lays229_ren : Go.Shelf.Ren := ⟨fun | 229 => 85 | n => n, fun | 9 => 9 | 40 => 140 | 31 => 23 | 152 => 152 | 3 => 3 | 0 => 0 | 4 => 4 | 21 => 21 | 154 => 154 | n => n, fun | n => n⟩
theorem Tryz.lays229 : Go.Proofs.Lays.n229 Tryz.prog Tryz.lays229_ren := {
 mixed := by kernel_rfl
 f229 := Tryz.func85.trans (congrArg some (by kernel_rfl))
 t0 := Tryz.underlying0
 a0 := Tryz.isAgg0
 z0 := Tryz.sizeOf0
 v0 := Tryz.zeroValue0
 t3 := Tryz.underlying3
 a3 := Tryz.isAgg3
 z3 := Tryz.sizeOf3
 v3 := Tryz.zeroValue3
 t4 := Tryz.underlying4
 a4 := Tryz.isAgg4
 z4 := Tryz.sizeOf4
 v4 := Tryz.zeroValue4
 t9 := Tryz.underlying9
 a9 := Tryz.isAgg9
 z9 := Tryz.sizeOf9
 v9 := Tryz.zeroValue9
 t21 := Tryz.underlying21
 a21 := Tryz.isAgg21
 z21 := Tryz.sizeOf21
 v21 := Tryz.zeroValue21
 t31 := Tryz.underlying23
 a31 := Tryz.isAgg23
 z31 := Tryz.sizeOf23
 v31 := Tryz.zeroValue23
 t40 := Tryz.underlying140
 a40 := Tryz.isAgg140
 z40 := Tryz.sizeOf140
 v40 := Tryz.zeroValue140
 t152 := Tryz.underlying152
 a152 := Tryz.isAgg152
 z152 := Tryz.sizeOf152
 v152 := Tryz.zeroValue152
 t154 := Tryz.underlying154
 a154 := Tryz.isAgg154
 z154 := Tryz.sizeOf154
 v154 := Tryz.zeroValue154 }
open Go.RowKit Go.Lib in
theorem Tryz.strings_IndexFunc_grows (g : Nat) (lb : Array Value) (eg : ∀ args w, (callFunc g args).run Tryz.prog w = .ok (.enter g args) w) (p : Nat → Bool) (s : ByteArray) (w : World) (hp : PredGrows Tryz.prog g lb p w) :
  Calls Tryz.prog 143 #[.string s, .func (.func g) #[] lb] w fun e w' => e = .returned (.int .i64 (Lib.idxFunc p true s)) ∧ Below w.heap.size w w' := Any.strings_IndexFunc_grows Tryz.laysGw15 g lb eg p s w hp
open Go.RowKit Go.Lib in
theorem Tryz.strings_FieldsFunc_grows (g : Nat) (lb : Array Value) (eg : ∀ args w, (callFunc g args).run Tryz.prog w = .ok (.enter g args) w) (p : Nat → Bool) (s : ByteArray) (w : World) (hs : s.size ≤ 4294967296) (hp : PredGrows Tryz.prog g lb p w) :
  Calls Tryz.prog 85 #[.string s, .func (.func g) #[] lb] w fun e w' => ∃ A, e = .returned (.slice (some ⟨A, 0, none⟩) (Lib.goFieldsP p s).length (Lib.goFieldsP p s).length) ∧ w.heap.size ≤ A ∧
   w'.ownsRow w.heap.size 9 1 (.slice (some ⟨A, 0, none⟩) (Lib.goFieldsP p s).length (Lib.goFieldsP p s).length) (Lib.goFieldsP p s).length ((Lib.goFieldsP p s).map Value.string) ∧ Below w.heap.size w w' := Any.strings_FieldsFunc_grows Tryz.lays229 g lb eg p s w hs hp (by kernel_rfl) (by kernel_rfl)
def Tryz.lays107_ren : Go.Shelf.Ren := ⟨fun | 107 => 71 | 108 => 100 | n => n, fun | 28 => 57 | 3 => 3 | 4 => 4 | 0 => 0 | n => n, fun | n => n⟩
theorem Tryz.lays107 : Go.Proofs.Lays.n107 Tryz.prog Tryz.lays107_ren := {
 mixed := by kernel_rfl
 f107 := Tryz.func71.trans (congrArg some (by kernel_rfl))
 f108 := Tryz.func100.trans (congrArg some (by kernel_rfl))
 t0 := Tryz.underlying0
 a0 := Tryz.isAgg0
 z0 := Tryz.sizeOf0
 v0 := Tryz.zeroValue0
 t3 := Tryz.underlying3
 a3 := Tryz.isAgg3
 z3 := Tryz.sizeOf3
 v3 := Tryz.zeroValue3
 t4 := Tryz.underlying4
 a4 := Tryz.isAgg4
 z4 := Tryz.sizeOf4
 v4 := Tryz.zeroValue4
 t28 := Tryz.underlying57
 a28 := Tryz.isAgg57
 z28 := Tryz.sizeOf57
 v28 := Tryz.zeroValue57 }
open Go.Lib in
theorem Tryz.slices_Contains_int (b off n c : Nat) (zs : List Int) (x : Int) (w : World) (hz : n ≤ zs.length) (hbig : n ≤ 9223372036854775807) (hc : ∀ j, j < zs.length → w.cell? ⟨b, off + j, none⟩ = some (.int .i64 (zs.getD j 0))) :
  Calls Tryz.prog 71 #[.slice (some ⟨b, off, none⟩) n c, .int .i64 x] w fun e w' => e = .returned (.bool ((zs.take n).contains x)) ∧ w' = w := Any.slices_Contains_int Tryz.lays107 b off n c zs x w hz hbig hc
open Go.Lib in
theorem Tryz.slices_Contains_int_empty (a : Option Addr) (c : Nat) (x : Int) (w : World) :
  Calls Tryz.prog 71 #[.slice a 0 c, .int .i64 x] w fun e w' => e = .returned (.bool false) ∧ w' = w := Any.slices_Contains_int_empty Tryz.lays107 a c x w
def Tryz.lays110_ren : Go.Shelf.Ren := ⟨fun | 110 => 58 | 109 => 82 | n => n, fun | 31 => 23 | 9 => 9 | 4 => 4 | 3 => 3 | 0 => 0 | n => n, fun | n => n⟩
theorem Tryz.lays110 : Go.Proofs.Lays.n110 Tryz.prog Tryz.lays110_ren := {
 mixed := by kernel_rfl
 f109 := Tryz.func82.trans (congrArg some (by kernel_rfl))
 f110 := Tryz.func58.trans (congrArg some (by kernel_rfl))
 t0 := Tryz.underlying0
 a0 := Tryz.isAgg0
 z0 := Tryz.sizeOf0
 v0 := Tryz.zeroValue0
 t3 := Tryz.underlying3
 a3 := Tryz.isAgg3
 z3 := Tryz.sizeOf3
 v3 := Tryz.zeroValue3
 t4 := Tryz.underlying4
 a4 := Tryz.isAgg4
 z4 := Tryz.sizeOf4
 v4 := Tryz.zeroValue4
 t9 := Tryz.underlying9
 a9 := Tryz.isAgg9
 z9 := Tryz.sizeOf9
 v9 := Tryz.zeroValue9
 t31 := Tryz.underlying23
 a31 := Tryz.isAgg23
 z31 := Tryz.sizeOf23
 v31 := Tryz.zeroValue23 }
open Go.Lib in
theorem Tryz.slices_Contains_string (b off n c : Nat) (zs : List ByteArray) (x : ByteArray) (w : World) (hz : n ≤ zs.length) (hbig : n ≤ 9223372036854775807) (hc : ∀ j, j < zs.length → w.cell? ⟨b, off + j, none⟩ = some (.string (zs.getD j ByteArray.empty))) :
  Calls Tryz.prog 58 #[.slice (some ⟨b, off, none⟩) n c, .string x] w fun e w' => e = .returned (.bool (Lib.containsS (zs.take n) x)) ∧ w' = w := Any.slices_Contains_string Tryz.lays110 b off n c zs x w hz hbig hc
def Tryz.lays194_ren : Go.Shelf.Ren := ⟨fun | 194 => 76 | n => n, fun | 31 => 23 | 9 => 9 | 3 => 3 | 4 => 4 | 0 => 0 | n => n, fun | n => n⟩
theorem Tryz.lays194 : Go.Proofs.Lays.n194 Tryz.prog Tryz.lays194_ren := {
 mixed := by kernel_rfl
 f194 := Tryz.func76.trans (congrArg some (by kernel_rfl))
 t0 := Tryz.underlying0
 a0 := Tryz.isAgg0
 z0 := Tryz.sizeOf0
 v0 := Tryz.zeroValue0
 t3 := Tryz.underlying3
 a3 := Tryz.isAgg3
 z3 := Tryz.sizeOf3
 v3 := Tryz.zeroValue3
 t4 := Tryz.underlying4
 a4 := Tryz.isAgg4
 z4 := Tryz.sizeOf4
 v4 := Tryz.zeroValue4
 t9 := Tryz.underlying9
 a9 := Tryz.isAgg9
 z9 := Tryz.sizeOf9
 v9 := Tryz.zeroValue9
 t31 := Tryz.underlying23
 a31 := Tryz.isAgg23
 z31 := Tryz.sizeOf23
 v31 := Tryz.zeroValue23 }
open Go.RowKit Go.Lib Go.Sort in
theorem Tryz.slices_Compact_string (blk off cap : Nat) (zs : List (List UInt8)) (w : World) (hH : Holds encStr w blk off zs.toArray) (hsz : zs.length ≤ 9223372036854775807) (hcap : zs.length ≤ cap) :
  Calls Tryz.prog 76 #[.slice (some ⟨blk, off, none⟩) zs.length cap] w fun e w' => e = .returned (.slice (some ⟨blk, off, none⟩) (Lib.compact zs).length cap) ∧ ∃ q, w' = putRow encStr (Sort.ahead w q) blk off (Lib.compact zs ++ List.replicate (zs.length - (Lib.compact zs).length) []).toArray := Any.slices_Compact_string Tryz.lays194 blk off cap zs w hH hsz hcap
open Go.RowKit Go.Lib Go.Sort in
theorem Tryz.slices_Compact_string_empty (a : Option Addr) (cap : Nat) (w : World) :
  Calls Tryz.prog 76 #[.slice a 0 cap] w fun e w' => e = .returned (.slice a 0 cap) ∧ w' = w := Any.slices_Compact_string_empty Tryz.lays194 a cap w
open Go.RowKit Go.Sort in
theorem Tryz.slices_Sort_string_none (p : Option Addr) (cap : Nat) (w : World) :
  Calls Tryz.prog 75 #[.slice p 0 cap] w fun e w' => e = .returned (.tuple #[]) ∧ w' = w := Any.slices_Sort_string_none Tryz.lays190 p cap w
open Go.RowKit Go.Sort in
theorem Tryz.slices_Sort_int_none (p : Option Addr) (cap : Nat) (w : World) :
  Calls Tryz.prog 107 #[.slice p 0 cap] w fun e w' => e = .returned (.tuple #[]) ∧ w' = w := Any.slices_Sort_int_none Tryz.lays189 p cap w
end Go.Proofs
end
section
namespace Go.Proofs.YtnegfigaiomehaaGreatDoor
open Go.RowKit Go.Lib Go.Joins
def tz64 : List Int := [0, 1, 56, 2, 57, 49, 28, 3, 61, 58, 42, 50, 38, 29, 17, 4, 62, 47, 59, 36, 45, 43, 51, 22, 53, 39, 33, 30, 24, 18, 12, 5, 63, 55, 48, 27, 60, 41, 37, 16, 46, 35, 44, 21, 52, 32, 23, 11, 54, 26, 40, 15, 34, 20, 31, 10, 25, 14, 19, 9, 13, 8, 7, 6]
def Tab (w : World) : Prop := Lib.TabIs Tryz.prog w "math/bits.deBruijn64tab" .u8 tz64
theorem Tab.below {w w' : World} (h : Tab w) (hb : Below w.heap.size w w') : Tab w' := tab_stays (g := 3) (by kernel_rfl) h hb (Nat.le_refl _)
theorem Tab.cell {w : World} (h : Tab w) : w.cell? ⟨3, 15, none⟩ = some (.int .u8 4) := Lib.TabIs.cell (g := 3) h (by kernel_rfl) 15 (by decide)
theorem Tab.of_laid {W : World} (h : laidMetH Tryz.prog Rows.topOrdersRow.laid W) : Tab W := by
 have h1 := h.filter (fun x => x.1 == "math/bits.deBruijn64tab")
 have e : Rows.topOrdersRow.laid.filter (fun x => x.1 == "math/bits.deBruijn64tab") = [("math/bits.deBruijn64tab", Lib.tabData .u8 tz64)] := by rfl
 rw [e, MakeChecks.laidMetH_plain _ _ _ (by kernel_rfl)] at h1
 exact Lib.tabIs_of_head (g := 3) (by kernel_rfl) (by kernel_rfl) Tryz.underlying236 Tryz.underlying5 (by kernel_rfl) (by kernel_rfl) h1
end Go.Proofs.YtnegfigaiomehaaGreatDoor
end
section
namespace Go.Proofs.YtnegfigaiomehaaGreatDoor.U
open Go.RowKit Go.Proofs.YtnegfigaiomehaaGreatDoorW.PrintWords
abbrev B (l : List UInt8) : ByteArray := ⟨l.toArray⟩
theorem toList_B (l : List UInt8) : (B l).toList = l := by rw [ByteArray.toList_eq]
theorem data_B (l : List UInt8) : (B l).data.toList = l := rfl
theorem size_B (l : List UInt8) : (B l).size = l.length := by simp [ByteArray.size]
theorem B_surj (s : ByteArray) : ∃ l, s = B l := ⟨s.data.toList, by cases s; simp [B]⟩
theorem B_of (s : ByteArray) : s = B s.data.toList := by cases s; simp [B]
theorem B_inj {a b : List UInt8} (h : B a = B b) : a = b := by
 have := congrArg (fun s => s.data.toList) h
 simpa using this
theorem B_append (a b : List UInt8) : B a ++ B b = B (a ++ b) := by
 apply ByteArray.ext
 rw [ByteArray.data_append]
 simp [B]
theorem extract_B (l : List UInt8) (a b : Nat) : (B l).extract a b = B ((l.take b).drop a) := by
 apply ByteArray.ext
 rw [ByteArray.data_extract]
 simp [B, List.extract_eq_take_drop, List.drop_take]
theorem bt_B (l : List UInt8) (i : Nat) (h : i < l.length) : bt (B l) (i : Int) = (l[i].toNat : Int) := by
 have h' : ((i : Int).toNat) < (B l).size := by rw [size_B]; simpa using h
 rw [← bt_at (B l) (i : Int) h']
 rfl
theorem bt_mid (p : List UInt8) (c : UInt8) (r : List UInt8) : bt (B (p ++ c :: r)) (p.length : Int) = (c.toNat : Int) := by
 rw [bt_B _ _ (by simp)]; simp
theorem wrap_id (x : Int) (h0 : -9223372036854775808 ≤ x) (h1 : x ≤ 9223372036854775807) : wrap64 x = x := by
 unfold wrap64; omega
theorem wrap_succ (i : Nat) (h : i < 4611686018427387904) : wrap64 ((i : Int) + 1) = ((i + 1 : Nat) : Int) := by
 rw [wrap_id _ (by omega) (by omega)]; rfl
theorem wrapH (i : Nat) (h : i < 4611686018427387904) : Hid (wrap64 ((i : Int) + 1) = ((i + 1 : Nat) : Int)) := wrap_succ i h
theorem wrapH2 (i j : Nat) (h : i + j < 4611686018427387904) : Hid (wrap64 ((i : Int) + (j : Int)) = ((i + j : Nat) : Int)) := by
 show wrap64 ((i : Int) + (j : Int)) = ((i + j : Nat) : Int)
 rw [wrap_id _ (by omega) (by omega)]; rfl
theorem byte_ne {c d : UInt8} (h : c ≠ d) : ¬ (c.toNat : Int) = (d.toNat : Int) := fun e => h (UInt8.toNat_inj.1 (by omega))
theorem rdOf_B (xs : List ByteArray) (i : Nat) (h : i < xs.length) : rdOf ByteArray.empty xs (i : Int) = xs[i] := by
 simp [rdOf, List.getD_eq_getElem?_getD, h]
theorem Ev.unroll {α : Type} {g : Nat → Option α} {r : α} (h : Ev (fun k => g (k + 1)) r) : Ev g r := Ev.step (fun _ => rfl) h
theorem Ev.some {α : Type} {g : Nat → Option α} {r : α} (h : ∀ k, g k = Option.some r) : Ev g r := ⟨0, fun k _ => h k⟩
theorem Ev.eqn {α : Type} {g : Nat → Option α} {r r' : α} (h : Ev g r) (e : r = r') : Ev g r' := e ▸ h
end Go.Proofs.YtnegfigaiomehaaGreatDoor.U
end
section
namespace Go.Proofs.YtnegfigaiomehaaGreatDoor.RegG
open Go
section
variable {P : Program} {ops : Array Oper} {Q : Exit → Act → World → Prop} {md : Region.Mode} {S : World → Prop} {k : Nat}
def wpAnyG (P : Program) (md : Region.Mode) (ops : Array Oper) (Q : Exit → Act → World → Prop) (S : World → Prop) (k : Nat) : Nat → Array Bool → Act → World → Prop
 | 0, listed, a, w => Region.ready md ops listed = [] ∧ Q .normal a w
 | fuel + 1, listed, a, w =>
  (Region.ready md ops listed = [] → Q .normal a w) ∧
  ∀ i ∈ Region.ready md ops listed, wpOp P ops Q i (fun a' w' => ((listed.setIfInBounds i true).getD k true = false → S w') ∧ wpAnyG P md ops Q S k fuel (listed.setIfInBounds i true) a' w') a w
theorem wpAny_of_G : ∀ (fuel : Nat) (listed : Array Bool) (a : Act) (w : World), wpAnyG P md ops Q S k fuel listed a w → wpAny P md ops Q fuel listed a w
 | 0, _, _, _, h => h
 | fuel + 1, _, _, _, h => ⟨h.1, fun i hi => wpOp_mono (fun a' w' h' => wpAny_of_G fuel _ a' w' h'.2) (h.2 i hi)⟩
def waits (md : Region.Mode) (ops : Array Oper) (k i : Nat) : Bool :=
 match ops[k]? with
 | some o => o.after.any fun e => Region.binds md e && e.on == i
 | none => true
theorem not_ready {i : Nat} {listed : Array Bool} (hk : waits md ops k i = true) (hi : listed.getD i true = false) (hr : k ∈ Region.ready md ops listed) : False := by
 obtain ⟨_, o, ho, h⟩ := mem_ready.1 hr
 unfold waits at hk
 rw [ho] at hk
 simp only at hk
 rw [Array.any_eq_true] at hk
 obtain ⟨n, hn, hb⟩ := hk
 rw [Bool.and_eq_true] at hb
 have h1 := h _ (Array.getElem_mem hn) hb.1
 rw [eq_of_beq hb.2] at h1
 rcases Nat.lt_or_ge i listed.size with h' | h'
 ·simp [h'] at hi h1; rw [hi] at h1; cases h1
 ·simp [Array.getElem?_eq_none h'] at h1
theorem wpAnyG_first {i : Nat} {oi : Oper} {v : Value} {T : World → Prop} (hik : i ≠ k) (hi : ops[i]? = some oi) (hsel : ∀ (j : Nat) (o : Oper) cs b, ops[j]? = some o → o.op ≠ .select cs b)
  (hQ : ∀ c a w, Q (.panic c) (a.put oi.dst v) w → Q (.panic c) a w) (hT : (∀ w, T w) ∨ (waits md ops k i = true ∧ ∀ w, S w → T w)) :
  ∀ (fuel : Nat) (listed : Array Bool) (a : Act) (w : World),
   (∀ j oj, ops[j]? = some oj → j ≠ i → listed.getD j true = false → (∀ e ∈ oj.after, Region.binds md e = true → e.on ≠ i) → oi.apart ops oj = true) →
   i ∈ Region.ready md ops listed → YieldsIf P ops T oi v a → T w → ((∀ w, T w) ∨ listed.getD k true = false) → (listed.getD k true = false → S w) →
   wpAnyG P md ops Q S k fuel (listed.setIfInBounds i true) (a.put oi.dst v) w → wpAnyG P md ops Q S k (fuel + 1) listed a w := by
 have hset : ∀ (listed : Array Bool) (w : World), (listed.getD k true = false → S w) → ((listed.setIfInBounds i true).getD k true = false → S w) := fun listed w h hk => by
  rw [getD_set_ne true hik] at hk; exact h hk
 intro fuel
 induction fuel with
 | zero =>
  intro listed a w _ hr hy hTw hS1 hS H
  refine ⟨fun h => (by rw [h] at hr; cases hr), fun j hj => ?_⟩
  by_cases hji : j = i
  ·subst hji; exact hy.wpOp hi hTw ⟨hset listed w hS, H⟩
  ·have := ready_mono hj hji
   rw [H.1] at this
   cases this
 | succ fuel ih =>
  intro listed a w hfree hr hy hTw hS1 hS H
  refine ⟨fun h => (by rw [h] at hr; cases hr), fun j hj => ?_⟩
  by_cases hji : j = i
  ·subst hji; exact hy.wpOp hi hTw ⟨hset listed w hS, H⟩
  ·have h1 := H.2 j (ready_mono hj hji)
   obtain ⟨hjun, oj, hoj, hall⟩ := mem_ready.1 hj
   have hnot : ∀ e ∈ oj.after, Region.binds md e = true → e.on ≠ i := fun e he hb heq => by
    have h1 := hall e he hb
    have h0 := (mem_ready.1 hr).1
    rw [heq] at h1
    rcases Nat.lt_or_ge i listed.size with h' | h'
    ·simp [h'] at h0 h1; rw [h0] at h1; cases h1
    ·simp [Array.getElem?_eq_none h'] at h1
   have h2 := wpOp_putIf (S := T) hoj (hfree j oj hoj hji hjun hnot) (fun cs b => hsel i oi cs b hi) (fun cs b => hsel j oj cs b hoj) hQ hy h1
   have hfree' : ∀ k ok, ops[k]? = some ok → k ≠ i → (listed.setIfInBounds j true).getD k true = false →
     (∀ e ∈ ok.after, Region.binds md e = true → e.on ≠ i) → oi.apart ops ok = true := fun k ok hk hki hun hno => by
    refine hfree k ok hk hki ?_ hno
    by_cases hjk : j = k
    ·subst hjk; exact hjun
    ·rw [getD_set_ne true hjk] at hun; exact hun
   refine wpOp_mono (fun a' w' h3 => ?_) h2
   obtain ⟨h4, h5, h6⟩ := h3
   rw [Array.setIfInBounds_comm _ _ (Ne.symm hji)] at h5 h6
   have hS' : (listed.setIfInBounds j true).getD k true = false → S w' := fun hk => h5 (by rw [getD_set_ne true hik]; exact hk)
   have hS1' : (∀ w, T w) ∨ (listed.setIfInBounds j true).getD k true = false := by
    rcases hT with h' | ⟨hw, _⟩
    ·exact .inl h'
    ·rcases hS1 with h | h
     ·exact .inl h
     ·refine .inr ?_
      have hjk : j ≠ k := fun e => by subst e; exact not_ready hw (mem_ready.1 hr).1 hj
      rw [getD_set_ne true hjk]; exact h
   have hT' : T w' := by
    rcases hT with h' | ⟨_, h'⟩
    ·exact h' w'
    ·rcases hS1' with h | h
     ·exact h w'
     ·exact h' w' (hS' h)
   exact ⟨hS', ih (listed.setIfInBounds j true) a' w' hfree' (ready_mono hr (Ne.symm hji)) h4 hT' hS1' hS' h6⟩
theorem takeP {i : Nat} {oi : Oper} {v : Value} {fuel : Nat} {listed : Array Bool} {a : Act} {w : World} (hi : ops[i]? = some oi) (hik : (i != k) = true)
  (hs : Region.noSelect ops = true) (hf : Region.free md ops listed i = true) (hr : (Region.ready md ops listed).contains i = true)
  (hQ : ∀ c a w, Q (.panic c) (a.put oi.dst v) w → Q (.panic c) a w) (hy : Region.wanted oi (yielded ops a.tmps) = true) (hv : ∀ w, (execOp a.eval oi).run P w = .ok (.value v) w) (hS : listed.getD k true = false → S w)
  (h : wpAnyG P md ops Q S k fuel (listed.setIfInBounds i true) (a.put oi.dst v) w) : wpAnyG P md ops Q S k (fuel + 1) listed a w :=
 wpAnyG_first (T := fun _ => True) (by simpa using hik) hi (Region.noSelect_spec hs) hQ (.inl fun _ => trivial) fuel listed a w (Region.free_spec hi hf) (by simpa using hr) (.inl ⟨hy, fun w _ => hv w⟩) trivial (.inl fun _ => trivial) hS h
theorem takeS {i : Nat} {oi : Oper} {v : Value} {fuel : Nat} {listed : Array Bool} {a : Act} {w : World} (hi : ops[i]? = some oi) (hik : (i != k) = true) (hw : waits md ops k i = true) (hk : listed.getD k true = false)
  (hs : Region.noSelect ops = true) (hf : Region.free md ops listed i = true) (hr : (Region.ready md ops listed).contains i = true)
  (hQ : ∀ c a w, Q (.panic c) (a.put oi.dst v) w → Q (.panic c) a w) (hy : Region.wanted oi (yielded ops a.tmps) = true) (hv : ∀ w, S w → (execOp a.eval oi).run P w = .ok (.value v) w) (hS : S w)
  (h : wpAnyG P md ops Q S k fuel (listed.setIfInBounds i true) (a.put oi.dst v) w) : wpAnyG P md ops Q S k (fuel + 1) listed a w :=
 wpAnyG_first (T := S) (by simpa using hik) hi (Region.noSelect_spec hs) hQ (.inr ⟨hw, fun _ h => h⟩) fuel listed a w (Region.free_spec hi hf) (by simpa using hr) (.inl ⟨hy, hv⟩) hS (.inr hk) (fun _ => hS) h
def AllG (P : Program) (md : Region.Mode) (ops : Array Oper) (Q : Exit → Act → World → Prop) (S : World → Prop) (k fuel : Nat) (listed : Array Bool) (a : Act) (w : World) (rs : List Nat) : Prop :=
 ∀ i ∈ rs, wpOp P ops Q i (fun a' w' => ((listed.setIfInBounds i true).getD k true = false → S w') ∧ wpAnyG P md ops Q S k fuel (listed.setIfInBounds i true) a' w') a w
theorem AllG.nil {fuel : Nat} {listed : Array Bool} {a : Act} {w : World} : AllG P md ops Q S k fuel listed a w [] := fun _ h => by cases h
theorem AllG.cons {fuel : Nat} {listed : Array Bool} {a : Act} {w : World} {i : Nat} {o : Oper} {rs : List Nat} (ho : ops[i]? = some o)
  (h : ∀ K' : Act → World → Prop, Shut (∀ a w, S w → (S w → wpAnyG P md ops Q S k fuel (listed.setIfInBounds i true) a w) → K' a w) → if Region.wanted o (yielded ops a.tmps) = true then Oper.wp P o a w K' Q else K' (a.put o.dst undef) w)
  (hs : AllG P md ops Q S k fuel listed a w rs) : AllG P md ops Q S k fuel listed a w (i :: rs) := fun j hj => by
 rcases List.mem_cons.1 hj with rfl | hj
 ·exact wpOp_step ho (fun K' hK => h K' (fun a w hS hW => hK a w ⟨fun _ => hS, hW hS⟩))
 ·exact hs j hj
theorem AllG.last {fuel : Nat} {listed : Array Bool} {a : Act} {w : World} {i : Nat} {o : Oper} {rs : List Nat} (hk : (listed.setIfInBounds i true).getD k true = true) (ho : ops[i]? = some o)
  (h : ∀ K' : Act → World → Prop, Shut (∀ a w, wpAnyG P md ops Q S k fuel (listed.setIfInBounds i true) a w → K' a w) → if Region.wanted o (yielded ops a.tmps) = true then Oper.wp P o a w K' Q else K' (a.put o.dst undef) w)
  (hs : AllG P md ops Q S k fuel listed a w rs) : AllG P md ops Q S k fuel listed a w (i :: rs) := fun j hj => by
 rcases List.mem_cons.1 hj with rfl | hj
 ·exact wpOp_step ho (fun K' hK => h K' (fun a w hW => hK a w ⟨fun e => (by rw [hk] at e; cases e), hW⟩))
 ·exact hs j hj
theorem readyG {rs : List Nat} {fuel : Nat} {listed : Array Bool} {a : Act} {w : World} (hr : Region.ready md ops listed = rs) (hne : rs ≠ [])
  (h : AllG P md ops Q S k fuel listed a w rs) : wpAnyG P md ops Q S k (fuel + 1) listed a w := ⟨fun h0 => absurd (hr ▸ h0) hne, hr ▸ h⟩
theorem doneG {listed : Array Bool} {a : Act} {w : World} (hr : Region.ready md ops listed = []) (h : Q .normal a w) :
  ∀ fuel, wpAnyG P md ops Q S k fuel listed a w
 | 0 => ⟨hr, h⟩
 | _ + 1 => ⟨fun _ => h, by rw [hr]; simp⟩
theorem regionG {id : Nat} {a : Act} {w : World} (S : World → Prop) (k : Nat) (hm : P.follows .mixedOrders = true) (hS : S w.drew)
  (h : S w.drew → wpAnyG P .any ops Q S k ops.size (Array.replicate ops.size false) a w.drew) : (Code.region id ops true).wp P Q a w :=
 wp_region_any hm (wpAny_of_G _ _ _ _ (h hS))
end
end Go.Proofs.YtnegfigaiomehaaGreatDoor.RegG
end
section
namespace Go.Proofs.YtnegfigaiomehaaGreatDoor.RegP
open Go Go.Proofs.YtnegfigaiomehaaGreatDoor.RegG
def planOk (md : Region.Mode) (ops : Array Oper) (k : Nat) : List (Nat × Nat) → Array Bool → Bool
 | [], l => Region.ready md ops l == []
 | (t, i) :: r, l =>
  (match t with
  | 0 => (i != k) && Region.free md ops l i && (Region.ready md ops l).contains i
  | 1 => (i != k) && waits md ops k i && (l.getD k true == false) && Region.free md ops l i && (Region.ready md ops l).contains i
  | 2 => Region.ready md ops l == [i]
  | 3 => Region.ready md ops l == [i] && ((l.setIfInBounds i true).getD k true == true)
  | 4 => (i != k) && Region.free md ops l i && (Region.ready md ops l).contains i
  | _ => false) && planOk md ops k r (l.setIfInBounds i true)
section
variable {P : Program} {ops : Array Oper} {Q : Exit → Act → World → Prop} {S : World → Prop} {k : Nat}
def wpPlan (P : Program) (ops : Array Oper) (Q : Exit → Act → World → Prop) (S : World → Prop) : List (Nat × Nat) → Act → World → Prop
 | [], a, w => Q .normal a w
 | (t, i) :: r, a, w => ∃ o, ops[i]? = some o ∧
  match t with
  | 0 => ∃ v, (∀ c a w, Q (.panic c) (a.put o.dst v) w → Q (.panic c) a w) ∧ Region.wanted o (yielded ops a.tmps) = true ∧ (∀ w', (execOp a.eval o).run P w' = .ok (.value v) w') ∧ wpPlan P ops Q S r (a.put o.dst v) w
  | 1 => ∃ v, (∀ c a w, Q (.panic c) (a.put o.dst v) w → Q (.panic c) a w) ∧ Region.wanted o (yielded ops a.tmps) = true ∧ (∀ w', S w' → (execOp a.eval o).run P w' = .ok (.value v) w') ∧ wpPlan P ops Q S r (a.put o.dst v) w
  | 4 => (∀ c a w, Q (.panic c) (a.put o.dst undef) w → Q (.panic c) a w) ∧ Region.wanted o (yielded ops a.tmps) = false ∧ wpPlan P ops Q S r (a.put o.dst undef) w
  | 2 => ∀ K' : Act → World → Prop, Shut (∀ a w, S w → (S w → wpPlan P ops Q S r a w) → K' a w) → if Region.wanted o (yielded ops a.tmps) = true then Oper.wp P o a w K' Q else K' (a.put o.dst undef) w
  | _ => ∀ K' : Act → World → Prop, Shut (∀ a w, wpPlan P ops Q S r a w → K' a w) → if Region.wanted o (yielded ops a.tmps) = true then Oper.wp P o a w K' Q else K' (a.put o.dst undef) w
theorem any_of_plan (hs : Region.noSelect ops = true) : ∀ (plan : List (Nat × Nat)) (l : Array Bool) (a : Act) (w : World), planOk .any ops k plan l = true → (l.getD k true = false → S w) → wpPlan P ops Q S plan a w → wpAnyG P .any ops Q S k plan.length l a w
 | [], l, a, w, hok, _, h => doneG (by simpa [planOk] using hok) h _
 | (t, i) :: r, l, a, w, hok, hS, h => by
  obtain ⟨o, ho, h⟩ := h
  rcases t with _ | _ | _ | _ | _ | t
  ·replace hok : (((i != k) && Region.free .any ops l i && (Region.ready .any ops l).contains i) && planOk .any ops k r (l.setIfInBounds i true)) = true := hok
   obtain ⟨h1, h2⟩ := Bool.and_eq_true_iff.1 hok
   simp only [Bool.and_eq_true] at h1
   obtain ⟨⟨e1, e2⟩, e3⟩ := h1
   obtain ⟨v, q1, q2, q3, q4⟩ := h
   have hik : i ≠ k := by simpa using e1
   exact takeP ho e1 hs e2 e3 q1 q2 q3 hS (any_of_plan hs r _ _ w h2 (fun e => hS (by rw [getD_set_ne true hik] at e; exact e)) q4)
  ·replace hok : (((i != k) && waits .any ops k i && (l.getD k true == false) && Region.free .any ops l i && (Region.ready .any ops l).contains i) && planOk .any ops k r (l.setIfInBounds i true)) = true := hok
   obtain ⟨h1, h2⟩ := Bool.and_eq_true_iff.1 hok
   simp only [Bool.and_eq_true] at h1
   obtain ⟨⟨⟨⟨e1, e2⟩, e3⟩, e4⟩, e5⟩ := h1
   obtain ⟨v, q1, q2, q3, q4⟩ := h
   have hik : i ≠ k := by simpa using e1
   have hk : l.getD k true = false := by simpa using e3
   exact takeS ho e1 e2 hk hs e4 e5 q1 q2 q3 (hS hk) (any_of_plan hs r _ _ w h2 (fun e => hS hk) q4)
  ·replace hok : ((Region.ready .any ops l == [i]) && planOk .any ops k r (l.setIfInBounds i true)) = true := hok
   obtain ⟨h1, h2⟩ := Bool.and_eq_true_iff.1 hok
   have hr : Region.ready .any ops l = [i] := eq_of_beq h1
   refine readyG hr (by simp) (AllG.cons ho (fun K' hK => ?_) AllG.nil)
   exact h K' (fun a w hS' hW => hK.out a w hS' (fun hS'' => any_of_plan hs r _ _ w h2 (fun _ => hS'') (hW hS'')))
  ·replace hok : ((Region.ready .any ops l == [i] && ((l.setIfInBounds i true).getD k true == true)) && planOk .any ops k r (l.setIfInBounds i true)) = true := hok
   obtain ⟨h1, h2⟩ := Bool.and_eq_true_iff.1 hok
   simp only [Bool.and_eq_true] at h1
   obtain ⟨e1, e2⟩ := h1
   have hr : Region.ready .any ops l = [i] := eq_of_beq e1
   have hk : (l.setIfInBounds i true).getD k true = true := eq_of_beq e2
   refine readyG hr (by simp) (AllG.last hk ho (fun K' hK => ?_) AllG.nil)
   exact h K' (fun a w hW => hK.out a w (any_of_plan hs r _ _ w h2 (fun e => (by rw [hk] at e; cases e)) hW))
  ·replace hok : (((i != k) && Region.free .any ops l i && (Region.ready .any ops l).contains i) && planOk .any ops k r (l.setIfInBounds i true)) = true := hok
   obtain ⟨h1, h2⟩ := Bool.and_eq_true_iff.1 hok
   simp only [Bool.and_eq_true] at h1
   obtain ⟨⟨e1, e2⟩, e3⟩ := h1
   obtain ⟨q1, q2, q4⟩ := h
   have hik : i ≠ k := by simpa using e1
   exact wpAnyG_first (v := undef) (T := fun _ => True) hik ho (Region.noSelect_spec hs) q1 (.inl fun _ => trivial) r.length l a w (Region.free_spec ho e2) (by simpa using e3) (.inr ⟨q2, rfl⟩) trivial (.inl fun _ => trivial) hS
    (any_of_plan hs r _ _ w h2 (fun e => hS (by rw [getD_set_ne true hik] at e; exact e)) q4)
  ·replace hok : (false && planOk .any ops k r (l.setIfInBounds i true)) = true := hok
   simp at hok
theorem region {id : Nat} {a : Act} {w : World} (S : World → Prop) (k : Nat) (plan : List (Nat × Nat)) (hm : P.follows .mixedOrders = true) (hs : Region.noSelect ops = true) (hl : plan.length = ops.size) (hok : planOk .any ops k plan (Array.replicate ops.size false) = true)
  (hS : S w.drew) (h : wpPlan P ops Q S plan a w.drew) : (Code.region id ops true).wp P Q a w := by
 refine regionG S k hm hS fun hS' => ?_
 rw [← hl]
 rw [← hl] at hok
 exact any_of_plan hs plan _ a _ hok (fun _ => hS') h
theorem pure1 {i : Nat} {r : List (Nat × Nat)} {a : Act} {w : World} {o : Oper} {v : Value} (ho : ops[i]? = some o) (hQ : ∀ c a w, Q (.panic c) (a.put o.dst v) w → Q (.panic c) a w) (hw : Region.wanted o (yielded ops a.tmps) = true)
  (hv : ∀ w', (execOp a.eval o).run P w' = .ok (.value v) w') (h : wpPlan P ops Q S r (a.put o.dst v) w) : wpPlan P ops Q S ((0, i) :: r) a w := ⟨o, ho, v, hQ, hw, hv, h⟩
theorem held1 {i : Nat} {r : List (Nat × Nat)} {a : Act} {w : World} {o : Oper} {v : Value} (ho : ops[i]? = some o) (hQ : ∀ c a w, Q (.panic c) (a.put o.dst v) w → Q (.panic c) a w) (hw : Region.wanted o (yielded ops a.tmps) = true)
  (hv : ∀ w', S w' → (execOp a.eval o).run P w' = .ok (.value v) w') (h : wpPlan P ops Q S r (a.put o.dst v) w) : wpPlan P ops Q S ((1, i) :: r) a w := ⟨o, ho, v, hQ, hw, hv, h⟩
theorem skip1 {i : Nat} {r : List (Nat × Nat)} {a : Act} {w : World} {o : Oper} (ho : ops[i]? = some o) (hQ : ∀ c a w, Q (.panic c) (a.put o.dst undef) w → Q (.panic c) a w) (hw : Region.wanted o (yielded ops a.tmps) = false)
  (h : wpPlan P ops Q S r (a.put o.dst undef) w) : wpPlan P ops Q S ((4, i) :: r) a w := ⟨o, ho, hQ, hw, h⟩
theorem done1 {a : Act} {w : World} (h : Q .normal a w) : wpPlan P ops Q S [] a w := h
theorem ev1 {i : Nat} {r : List (Nat × Nat)} {a : Act} {w : World} {o : Oper} (ho : ops[i]? = some o)
  (h : ∀ K' : Act → World → Prop, Shut (∀ a w, S w → (S w → wpPlan P ops Q S r a w) → K' a w) → if Region.wanted o (yielded ops a.tmps) = true then Oper.wp P o a w K' Q else K' (a.put o.dst undef) w) : wpPlan P ops Q S ((2, i) :: r) a w := ⟨o, ho, h⟩
theorem last1 {i : Nat} {r : List (Nat × Nat)} {a : Act} {w : World} {o : Oper} (ho : ops[i]? = some o)
  (h : ∀ K' : Act → World → Prop, Shut (∀ a w, wpPlan P ops Q S r a w → K' a w) → if Region.wanted o (yielded ops a.tmps) = true then Oper.wp P o a w K' Q else K' (a.put o.dst undef) w) : wpPlan P ops Q S ((3, i) :: r) a w := ⟨o, ho, h⟩
def planOkH (md : Region.Mode) (ops : Array Oper) : List (Nat × Nat) → Array Bool → Bool
 | [], l => Region.ready md ops l == []
 | (t, i) :: r, l =>
  (match t with
  | 0 => Region.free md ops l i && (Region.ready md ops l).contains i
  | 1 => Region.free md ops l i && (Region.ready md ops l).contains i
  | 2 => Region.ready md ops l == [i]
  | 4 => Region.free md ops l i && (Region.ready md ops l).contains i
  | _ => false) && planOkH md ops r (l.setIfInBounds i true)
theorem any_of_planH (hs : Region.noSelect ops = true) : ∀ (plan : List (Nat × Nat)) (l : Array Bool) (a : Act) (w : World), planOkH .any ops plan l = true → S w → wpPlan P ops Q S plan a w → wpAnyH P .any ops Q S plan.length l a w
 | [], l, a, w, hok, _, h => wpAnyH_done (by simpa [planOkH] using hok) h _
 | (t, i) :: r, l, a, w, hok, hS, h => by
  obtain ⟨o, ho, h⟩ := h
  rcases t with _ | _ | _ | _ | _ | t
  ·replace hok : ((Region.free .any ops l i && (Region.ready .any ops l).contains i) && planOkH .any ops r (l.setIfInBounds i true)) = true := hok
   obtain ⟨h1, h2⟩ := Bool.and_eq_true_iff.1 hok
   obtain ⟨e2, e3⟩ := Bool.and_eq_true_iff.1 h1
   obtain ⟨v, q1, q2, q3, q4⟩ := h
   exact wpAnyH_take ho hs e2 e3 q1 (.inl ⟨q2, fun w' _ => q3 w'⟩) hS (any_of_planH hs r _ _ w h2 hS q4)
  ·replace hok : ((Region.free .any ops l i && (Region.ready .any ops l).contains i) && planOkH .any ops r (l.setIfInBounds i true)) = true := hok
   obtain ⟨h1, h2⟩ := Bool.and_eq_true_iff.1 hok
   obtain ⟨e2, e3⟩ := Bool.and_eq_true_iff.1 h1
   obtain ⟨v, q1, q2, q3, q4⟩ := h
   exact wpAnyH_take ho hs e2 e3 q1 (.inl ⟨q2, q3⟩) hS (any_of_planH hs r _ _ w h2 hS q4)
  ·replace hok : ((Region.ready .any ops l == [i]) && planOkH .any ops r (l.setIfInBounds i true)) = true := hok
   obtain ⟨h1, h2⟩ := Bool.and_eq_true_iff.1 hok
   have hr : Region.ready .any ops l = [i] := eq_of_beq h1
   refine wpAnyH_ready hr (by simp) (AllReadyH.cons ho (fun K' hK => ?_) AllReadyH.nil)
   exact h K' (fun a w hS' hW => hK.out a w hS' (fun hS'' => any_of_planH hs r _ _ w h2 hS'' (hW hS'')))
  ·replace hok : (false && planOkH .any ops r (l.setIfInBounds i true)) = true := hok
   simp at hok
  ·replace hok : ((Region.free .any ops l i && (Region.ready .any ops l).contains i) && planOkH .any ops r (l.setIfInBounds i true)) = true := hok
   obtain ⟨h1, h2⟩ := Bool.and_eq_true_iff.1 hok
   obtain ⟨e2, e3⟩ := Bool.and_eq_true_iff.1 h1
   obtain ⟨q1, q2, q4⟩ := h
   exact wpAnyH_take (v := undef) ho hs e2 e3 q1 (.inr ⟨q2, rfl⟩) hS (any_of_planH hs r _ _ w h2 hS q4)
  ·replace hok : (false && planOkH .any ops r (l.setIfInBounds i true)) = true := hok
   simp at hok
theorem regionH {id : Nat} {a : Act} {w : World} (S : World → Prop) (plan : List (Nat × Nat)) (hm : P.follows .mixedOrders = true) (hs : Region.noSelect ops = true) (hl : plan.length = ops.size) (hok : planOkH .any ops plan (Array.replicate ops.size false) = true)
  (hS : S w.drew) (h : wpPlan P ops Q S plan a w.drew) : (Code.region id ops true).wp P Q a w := by
 refine wp_region_held_drew hm hS fun hS' => ?_
 rw [← hl]
 rw [← hl] at hok
 exact any_of_planH hs plan _ a _ hok hS' h
end
end Go.Proofs.YtnegfigaiomehaaGreatDoor.RegP
end
section
namespace Go.Proofs.YtnegfigaiomehaaGreatDoor.RegI
open Go Go.Proofs.YtnegfigaiomehaaGreatDoor.RegG Go.Proofs.YtnegfigaiomehaaGreatDoor.RegP
section
variable {P : Program} {ops : Array Oper} {Q : Exit → Act → World → Prop} {md : Region.Mode} {S : World → Prop} {k : Nat}
theorem inv_thenG (I : Nat → Array Bool → Act → World → Prop) (F : Nat) (hd : ∀ l a w, I 0 l a w → wpAnyG P md ops Q S k F l a w)
  (hs : ∀ n l a w, I (n + 1) l a w → Region.ready md ops l ≠ [] ∧ ∀ i ∈ Region.ready md ops l, wpOp P ops Q i (fun a' w' => S w' ∧ I n (l.setIfInBounds i true) a' w') a w) :
  ∀ (n : Nat) (l : Array Bool) (a : Act) (w : World), I n l a w → wpAnyG P md ops Q S k (n + F) l a w
 | 0, l, a, w, h => by rw [Nat.zero_add]; exact hd l a w h
 | n + 1, l, a, w, h => by
  obtain ⟨h1, h2⟩ := hs n l a w h
  rw [Nat.add_right_comm]
  refine ⟨fun e => absurd e h1, fun i hi => ?_⟩
  exact wpOp_mono (fun a' w' hh => ⟨fun _ => hh.1, inv_thenG I F hd hs n _ a' w' hh.2⟩) (h2 i hi)
def preOk (md : Region.Mode) (ops : Array Oper) (k : Nat) : List (Nat × Nat) → Array Bool → Bool
 | [], _ => true
 | (_, i) :: r, l => ((i != k) && waits md ops k i && (l.getD k true == false) && Region.free md ops l i && (Region.ready md ops l).contains i) && preOk md ops k r (l.setIfInBounds i true)
def preL : List (Nat × Nat) → Array Bool → Array Bool
 | [], l => l
 | (_, i) :: r, l => preL r (l.setIfInBounds i true)
def wpPre (P : Program) (ops : Array Oper) (Q : Exit → Act → World → Prop) (S : World → Prop) (C : Act → Prop) : List (Nat × Nat) → Act → Prop
 | [], a => C a
 | (t, i) :: r, a => ∃ o, ops[i]? = some o ∧ ∃ v, (∀ c a w, Q (.panic c) (a.put o.dst v) w → Q (.panic c) a w) ∧ Region.wanted o (yielded ops a.tmps) = true ∧
   (match t with
    | 0 => ∀ w', (execOp a.eval o).run P w' = .ok (.value v) w'
    | _ => ∀ w', S w' → (execOp a.eval o).run P w' = .ok (.value v) w') ∧ wpPre P ops Q S C r (a.put o.dst v)
theorem pre_thenG (hs : Region.noSelect ops = true) {C : Act → Prop} {F : Nat} {w : World} (hS : S w) : ∀ (pre : List (Nat × Nat)) (l : Array Bool) (a : Act), preOk md ops k pre l = true →
  (∀ a, C a → wpAnyG P md ops Q S k F (preL pre l) a w) → wpPre P ops Q S C pre a → wpAnyG P md ops Q S k (pre.length + F) l a w
 | [], l, a, _, hC, h => by rw [List.length_nil, Nat.zero_add]; exact hC a h
 | (t, i) :: r, l, a, hok, hC, h => by
  obtain ⟨o, ho, v, q1, q2, q3, q4⟩ := h
  simp only [preOk, Bool.and_eq_true] at hok
  obtain ⟨⟨⟨⟨⟨e1, e2⟩, e3⟩, e4⟩, e5⟩, e6⟩ := hok
  rw [List.length_cons, Nat.add_right_comm]
  refine takeS ho e1 e2 (by simpa using e3) hs e4 e5 q1 q2 (fun w' hw' => ?_) hS (pre_thenG hs hS r _ _ e6 hC q4)
  cases t with
  | zero => exact q3 w'
  | succ t => exact q3 w' hw'
theorem p0 {i : Nat} {r : List (Nat × Nat)} {a : Act} {o : Oper} {v : Value} {C : Act → Prop} (ho : ops[i]? = some o) (hQ : ∀ c a w, Q (.panic c) (a.put o.dst v) w → Q (.panic c) a w) (hw : Region.wanted o (yielded ops a.tmps) = true)
  (hv : ∀ w', (execOp a.eval o).run P w' = .ok (.value v) w') (h : wpPre P ops Q S C r (a.put o.dst v)) : wpPre P ops Q S C ((0, i) :: r) a := ⟨o, ho, v, hQ, hw, hv, h⟩
theorem p1 {i : Nat} {r : List (Nat × Nat)} {a : Act} {o : Oper} {v : Value} {C : Act → Prop} (ho : ops[i]? = some o) (hQ : ∀ c a w, Q (.panic c) (a.put o.dst v) w → Q (.panic c) a w) (hw : Region.wanted o (yielded ops a.tmps) = true)
  (hv : ∀ w', S w' → (execOp a.eval o).run P w' = .ok (.value v) w') (h : wpPre P ops Q S C r (a.put o.dst v)) : wpPre P ops Q S C ((1, i) :: r) a := ⟨o, ho, v, hQ, hw, hv, h⟩
theorem pe {a : Act} {C : Act → Prop} (h : C a) : wpPre P ops Q S C [] a := h
theorem regionI {id : Nat} {a : Act} {w : World} (S : World → Prop) (k : Nat) (pre post : List (Nat × Nat)) (n : Nat) (L1 : Array Bool) (I : Nat → Array Bool → Act → World → Prop) (hm : P.follows .mixedOrders = true) (hs : Region.noSelect ops = true)
  (hl : pre.length + (n + post.length) = ops.size) (hpre : preOk .any ops k pre (Array.replicate ops.size false) = true) (hpost : planOk .any ops k post L1 = true) (hS : S w.drew)
  (hd : ∀ l a w, I 0 l a w → l = L1 ∧ S w ∧ wpPlan P ops Q S post a w)
  (hst : ∀ n l a w, I (n + 1) l a w → Region.ready .any ops l ≠ [] ∧ ∀ i ∈ Region.ready .any ops l, wpOp P ops Q i (fun a' w' => S w' ∧ I n (l.setIfInBounds i true) a' w') a w)
  (h : wpPre P ops Q S (fun a => I n (preL pre (Array.replicate ops.size false)) a w.drew) pre a) : (Code.region id ops true).wp P Q a w := by
 refine regionG S k hm hS fun hS' => ?_
 rw [← hl] at hpre h ⊢
 refine pre_thenG hs hS' pre _ a hpre (fun a ha => ?_) h
 refine inv_thenG I post.length (fun l a w hI => ?_) hst n _ _ _ ha
 obtain ⟨e, hSw, hp⟩ := hd l a w hI
 subst e
 exact any_of_plan hs post _ a w hpost (fun _ => hSw) hp
end
end Go.Proofs.YtnegfigaiomehaaGreatDoor.RegI
end
section
namespace Go.Proofs.YtnegfigaiomehaaGreatDoor.MapV
open Go.RowKit Go.Lib Go.Maps Go.WideMaps Go.WideElems Go.Proofs.YtnegfigaiomehaaGreatDoor.U
abbrev Txt := List UInt8
theorem skeyed : Keyed Tryz.prog 9 := string_keyed Tryz.underlying9
abbrev MapVal := Txt → Option Value
def updV (m : MapVal) (k : Txt) (v : Value) : MapVal := fun x => if x = k then some v else m x
def noneV : MapVal := fun _ => none
def Rv (v : Value) : Option (DataW Value × List MemPlace) := some (.held v, [])
def OwnsV (w : World) (b n : Nat) (m : MapVal) : Prop :=
 ∃ D : DataW Value, w.ownsMap Tryz.prog 9 Rv b n D ∧ (∀ k, Maps.has D (.string k) = (m k).isSome) ∧ (∀ k t, m k = some t → ∀ z, D.atKey (.string k) z = .held t)
theorem OwnsV.lt {w : World} {b n : Nat} {m : MapVal} (h : OwnsV w b n m) : b < w.heap.size := by
 obtain ⟨D, h, _⟩ := h
 exact h.lt
theorem OwnsV.mono {w : World} {b n n' : Nat} {m : MapVal} (h : OwnsV w b n m) (hn : n ≤ n') : OwnsV w b n' m := by
 obtain ⟨D, h, r⟩ := h
 exact ⟨D, h.mono hn, r⟩
theorem OwnsV.same {w w' : World} {b n : Nat} {m : MapVal} (h : OwnsV w b n m) (hb : w'.heap[b]? = w.heap[b]?) : OwnsV w' b n m := by
 obtain ⟨D, ⟨es, clock, h1, h2⟩, r⟩ := h
 exact ⟨D, ⟨es, clock, hb.trans h1, h2⟩, r⟩
theorem OwnsV.made (w : World) : OwnsV (w.alloc (.map #[] 0)) w.heap.size 0 noneV :=
 ⟨.map [], World.ownsMap_made w _ _ _, fun _ => rfl, fun k t h => by cases h⟩
theorem held_of {w : World} {b n : Nat} {m : MapVal} {D : DataW Value} (h1 : ∀ k, Maps.has D (.string k) = (m k).isSome) (h2 : ∀ k t, m k = some t → ∀ z, D.atKey (.string k) z = .held t)
  {k : Txt} {z v : Value} {ps : List MemPlace} (hv : Rv v = some (D.atKey (.string k) (.held z), ps)) : v = (m k).getD z := by
 have hat : (DataW.held v : DataW Value) = D.atKey (.string k) (.held z) := (Prod.mk.inj (Option.some.inj hv)).1
 cases hm : m k with
 | none =>
  have hn : Maps.has D (.string k) = false := by rw [h1 k, hm]; rfl
  rw [Maps.atKey_of_not_has hn] at hat
  injection hat
 | some t =>
  rw [h2 k t hm] at hat
  injection hat
theorem OwnsV.look {t e : TypeId} {z : Value} {w : World} {b n : Nat} {m : MapVal} (h : OwnsV w b n m) (ht : Tryz.prog.underlying t = some (.map 9 e)) (hz : (zeroValue e).run Tryz.prog w = .ok z w) (k : Txt) (hk : k.length ≤ maxLen) :
  (Instr.lookup t (.map (some b)) (.string (B k)) false).run Tryz.prog w = .ok ((m k).getD z) w := by
 obtain ⟨D, h, h1, h2⟩ := h
 have hkey : keyOf Tryz.prog 9 (.string (B k)) = some (.string k) := keyOf_string_mk Tryz.underlying9 (by rw [size_B]; exact hk)
 obtain ⟨v, ps, hrun, hv⟩ := h.lookup skeyed ht hz (show Rv z = some (.held z, []) from rfl) hkey
 rw [hrun, held_of (w := w) (b := b) (n := n) h1 h2 hv]
theorem OwnsV.look_ok {t e : TypeId} {z : Value} {w : World} {b n : Nat} {m : MapVal} (h : OwnsV w b n m) (ht : Tryz.prog.underlying t = some (.map 9 e)) (hz : (zeroValue e).run Tryz.prog w = .ok z w) (k : Txt) (hk : k.length ≤ maxLen) :
  (Instr.lookup t (.map (some b)) (.string (B k)) true).run Tryz.prog w = .ok (.tuple #[(m k).getD z, .bool (m k).isSome]) w := by
 obtain ⟨D, h, h1, h2⟩ := h
 have hkey : keyOf Tryz.prog 9 (.string (B k)) = some (.string k) := keyOf_string_mk Tryz.underlying9 (by rw [size_B]; exact hk)
 obtain ⟨v, ps, hrun, hv⟩ := h.look_ok skeyed ht hz (show Rv z = some (.held z, []) from rfl) hkey
 rw [hrun, h1 k, held_of (w := w) (b := b) (n := n) h1 h2 hv]
theorem OwnsV.store {t e : TypeId} {w : World} {b n : Nat} {m : MapVal} (h : OwnsV w b n m) (ht : Tryz.prog.underlying t = some (.map 9 e)) (hn : n < maxLen) (k : Txt) (v : Value) (hk : k.length ≤ maxLen) :
  ∃ w', (Instr.mapUpdate t (.map (some b)) (.string (B k)) v).run Tryz.prog w = .ok () w' ∧ OwnsV w' b (n + 1) (updV m k v) ∧ w.grownBy w' (some b) := by
 obtain ⟨D, h, h1, h2⟩ := h
 have hkey : keyOf Tryz.prog 9 (.string (B k)) = some (.string k) := keyOf_string_mk Tryz.underlying9 (by rw [size_B]; exact hk)
 obtain ⟨w', hrun, hown, hg⟩ := h.update skeyed ht hn hkey (show Rv v = some (.held v, []) from rfl)
 refine ⟨w', hrun, ⟨_, hown, ?_, ?_⟩, hg⟩
 ·intro x
  by_cases hx : x = k
  ·subst hx
   rw [has_put_same h.isMap (show WideAt.IsKeyLit (.string x) from trivial)]; simp [updV]
  ·rw [has_put_other (by simpa using hx), h1 x]; simp [updV, hx]
 ·intro x t' hx' z
  by_cases hx : x = k
  ·subst hx
   rw [atKey_put_same h.isMap (show WideAt.IsKeyLit (.string x) from trivial)]
   have : v = t' := by simpa [updV] using hx'
   rw [← this]
  ·rw [atKey_put_other (by simpa using hx)]
   exact h2 x t' (by simpa [updV, hx] using hx') z
end Go.Proofs.YtnegfigaiomehaaGreatDoor.MapV
end
section
namespace Go.Proofs.YtnegfigaiomehaaGreatDoor.Ck
open Go.RowKit Go.Lib Go.Maps Go.Proofs.YtnegfigaiomehaaGreatDoorW.PrintWords Go.Proofs.YtnegfigaiomehaaGreatDoor.U Go.Proofs.YtnegfigaiomehaaGreatDoor.MapV
abbrev flV : List PanicEntry := [{ v := .iface 137 (.agg #[]), recovered := false }]
abbrev fl : Ending := .panicked flV
abbrev at0 (b : Nat) : Value := .pointer (some ⟨b, 0, none⟩)
theorem need_no (w : World) : Calls Tryz.prog 65 #[.bool false] w fun e w' => e = fl ∧ w = w' := by
 go_enter Tryz.func65, Tryz.ntmps65
 go_wp2
 exact ⟨rfl, rfl, rfl⟩
theorem need_yes (w : World) : Calls Tryz.prog 65 #[.bool true] w fun e w' => e = .returned (.tuple #[]) ∧ w = w' := by
 go_enter Tryz.func65, Tryz.ntmps65
 go_wp2
 go_end0
 exact ⟨rfl, rfl⟩
theorem catch_idle (a : Value) (w : World) :
  CallsD Tryz.prog 84 #[a] .returning w fun e u' w' => e = .returned (.tuple #[]) ∧ u' = .returning ∧ w' = w := by
 refine callsD_of_wpS Tryz.func84 rfl fun c₀ cs hu => ?_
 apply wpS_seq
 apply wpS_region
 simp [wpOpsS, go_sem, recoverD, hu, Tryz.ntmps84, Exit.thenS]
 apply wpS_seq
 apply wpS_region
 simp [wpOpsS, go_sem, Exit.thenS]
 refine wpS_cond (t := false) (by simp [Act.eval, Array.replicate]) ?_
 simp only [Bool.false_eq_true, if_false]
 refine wpS_of_wp (wp_skip ?_)
 cases c₀
 simp_all [bodyPostS, results]
structure But (o : Nat) (w w' : World) : Prop where
 os : w'.os = w.os
 tape : w'.tape = w.tape
 output : w'.output = w.output
 size : w.heap.size ≤ w'.heap.size
 same : ∀ b, b < w.heap.size → b ≠ o → w'.heap[b]? = w.heap[b]?
set_option maxRecDepth 100000 in
set_option maxHeartbeats 4000000 in
theorem catch_failed (o : Nat) (y : Int) (W : World) (ho : W.heap[o]? = some (.cells #[.int .i64 y] 41 (0, 0))) :
  CallsD Tryz.prog 84 #[.pointer (some ⟨o, 0, none⟩)] (.panicking flV) W fun e u' w' => e = .returned (.tuple #[]) ∧ u' = .panicking [{ v := .iface 137 (.agg #[]), recovered := true }] ∧
   w'.heap[o]? = some (.cells #[.int .i64 13] 41 (0, 0)) ∧ But o W w' := by
 refine callsD_of_wpS Tryz.func84 rfl fun c₀ cs hu => ?_
 apply wpS_seq
 apply wpS_region
 simp [wpOpsS, go_sem, recoverD, hu, Tryz.ntmps84, Exit.thenS]
 apply wpS_seq
 apply wpS_region
 simp [wpOpsS, go_sem, Exit.thenS]
 refine wpS_cond (t := true) (by simp [Act.eval, Array.replicate]) ?_
 simp only [if_true]
 refine wpS_of_wp ?_
 have hta : ∀ w : World, (Instr.typeAssert (.iface 137 (.agg #[])) 20 137 true).run Tryz.prog w = .ok (.tuple #[.agg #[], .bool true]) w := fun w => by kernel_rfl
 have c0 := (cell_of_heap (j := 0) ho).trans rfl
 have f0 := frozen_of_heap ho 0
 have hol := (Array.getElem?_eq_some_iff.1 ho).1
 have hoH := Lib.hid ho
 clear ho
 simp only [Array.replicate_succ, Array.replicate_zero, List.push_toArray, List.append_toArray, List.nil_append, List.cons_append, List.setIfInBounds_toArray, List.set_cons_succ, List.set_cons_zero]
 go_wp2_with fail
 refine ⟨rfl, _, rfl, _, results_none rfl _ _ _, rfl, rfl, ?_, ⟨rfl, rfl, rfl, ?_, ?_⟩⟩
 ·exact (Below.heap_alloc _ _ _ (by simpa using hol)).trans (blk_put hoH.out 0 _ rfl)
 ·simp
 ·intro b hb hne
  exact (Below.heap_alloc _ _ _ (by simpa using hb)).trans (Below.heap_setCell _ _ _ _ hne)
theorem But.refl (o : Nat) (w : World) : But o w w := ⟨rfl, rfl, rfl, Nat.le_refl _, fun _ _ _ => rfl⟩
theorem But.trans {o : Nat} {a b c : World} (h : But o a b) (k : But o b c) : But o a c := ⟨k.os.trans h.os, k.tape.trans h.tape, k.output.trans h.output, Nat.le_trans h.size k.size, fun i hi hne => (k.same i (Nat.lt_of_lt_of_le hi h.size) hne).trans (h.same i hi hne)⟩
theorem But.of_below {o : Nat} {a b : World} (h : Below a.heap.size a b) : But o a b := ⟨h.os, h.tape, h.output, h.size, fun i hi _ => h.block i hi⟩
theorem But.set {o : Nat} {a b : World} (h : But o a b) (j : Nat) (v : Value) : But o a (b.setCell ⟨o, j, none⟩ v) := ⟨h.os, h.tape, h.output, by simpa using h.size, fun i hi hne => (Below.heap_setCell b ⟨o, j, none⟩ v i hne).trans (h.same i hi hne)⟩
theorem guarded_results (tmps : Array Value) (n : Nat) (h2 : tmps[2]?.getD undef = .pointer (some ⟨n, 0, none⟩)) (W : World) (c : Int) (ho : W.heap[n]? = some (.cells #[.int .i64 c] 41 (0, 0))) :
  (results Tryz.f61 tmps).run Tryz.prog W = .ok (.int .i64 c) W := by
 have c2 : W.cell? ⟨n, 0, none⟩ = some (.int .i64 c) := (cell_of_heap (j := 0) ho).trans rfl
 simp [results, Tryz.f61, go_sem, h2, c2]
def Guards (o : Nat) (Rok Rbad : World → Prop) (e : Ending) (w' : World) : Prop :=
 (e = .returned (.int .i64 0) ∧ ∃ w1, Rok w1 ∧ But o w1 w') ∨ (e = .returned (.int .i64 13) ∧ ∃ w1, Rbad w1 ∧ But o w1 w')
def Told (o : Nat) (Rok Rbad : World → Prop) (e : Ending) (w' : World) : Prop :=
 w'.heap[o]? = some (.cells #[.int .i64 0] 41 (0, 0)) ∧ ((e = .returned (.tuple #[]) ∧ Rok w') ∨ (e = fl ∧ Rbad w'))
set_option maxRecDepth 100000 in
set_option maxHeartbeats 4000000 in
theorem guarded_any (gf : Nat) (lb : Array Value) (w : World) (hg : ∀ args w, (callFunc gf args).run Tryz.prog w = .ok (.enter gf args) w) (Rok Rbad : World → Prop)
  (hdo : Calls Tryz.prog gf lb (w.alloc (.cells #[.int .i64 0] 41)) (Told w.heap.size Rok Rbad)) :
  Calls Tryz.prog 61 #[.func (.func gf) #[] lb] w (Guards w.heap.size Rok Rbad) := by
 have hmf : ∀ (fn : Fn) (first cap : Array Value) (w : World), (Instr.makeFunc fn first cap).run Tryz.prog w = .ok (.func fn first cap) w := fun _ _ _ _ => rfl
 have hD := Lib.hid hdo
 clear hdo
 go_enter_defers Tryz.func61, Tryz.ntmps61
 go_wp2_with fail
 refine hD.out.mono ?_
 rintro e w1 ⟨ho, (⟨rfl, hr⟩ | ⟨rfl, hr⟩)⟩
 ·have c0 : w1.cell? ⟨w.heap.size, 0, none⟩ = some (.int .i64 0) := (cell_of_heap (j := 0) ho).trans rfl
  have f0 := frozen_of_heap ho 0
  have hoH := Lib.hid ho
  clear ho
  go_wp2_with fail
  refine leaves_cons (f := 84) (args := #[.pointer (some ⟨w.heap.size, 0, none⟩)]) (by simp) (by simp [go_sem]) ?_
  refine (catch_idle _ _).mono ?_
  rintro e u' w' ⟨rfl, rfl, rfl⟩
  refine ⟨_, guarded_results _ w.heap.size rfl _ 0 (blk_put hoH.out 0 _ rfl), .inl ⟨rfl, w1, hr, rfl, rfl, rfl, by simp, fun b hb hne => Below.heap_setCell _ _ _ _ hne⟩⟩
 ·refine leaves_cons (f := 84) (args := #[.pointer (some ⟨w.heap.size, 0, none⟩)]) (by simp) (by simp [go_sem]) ?_
  refine (catch_failed _ _ _ ho).mono ?_
  rintro e u' w' ⟨rfl, rfl, h1, h2⟩
  exact ⟨_, guarded_results _ w.heap.size rfl _ 13 h1, .inr ⟨rfl, w1, hr, h2⟩⟩
def verbF (k : Txt) : Option Value :=
 if k = [102, 97, 105, 108] then some (.func (.func 93) #[] #[]) else
 if k = [105, 110, 99] then some (.func (.func 92) #[] #[]) else
 if k = [112, 117, 116] then some (.func (.func 91) #[] #[]) else
 if k = [115, 117, 109] then some (.func (.func 90) #[] #[]) else
 if k = [114, 101, 118] then some (.func (.func 89) #[] #[]) else
 if k = [99, 97, 116] then some (.func (.func 88) #[] #[]) else none
set_option maxRecDepth 100000 in
set_option maxHeartbeats 4000000 in
theorem verbs_any (w : World) : Calls Tryz.prog 64 #[] w fun e w' => e = .returned (.map (some w.heap.size)) ∧ OwnsV w' w.heap.size 6 verbF ∧ Below w.heap.size w w' := by
 have hmm := @run_makeMap Tryz.prog
 have hm0 : OwnsV (w.alloc (.map #[] 0)) w.heap.size 0 noneV := OwnsV.made w
 obtain ⟨y1, r1, m1, g1⟩ := hm0.store (t := 110) Tryz.underlying110 (by decide) [99, 97, 116] (.func (.func 88) #[] #[]) (by decide)
 obtain ⟨y2, r2, m2, g2⟩ := m1.store (t := 110) Tryz.underlying110 (by decide) [114, 101, 118] (.func (.func 89) #[] #[]) (by decide)
 obtain ⟨y3, r3, m3, g3⟩ := m2.store (t := 110) Tryz.underlying110 (by decide) [115, 117, 109] (.func (.func 90) #[] #[]) (by decide)
 obtain ⟨y4, r4, m4, g4⟩ := m3.store (t := 110) Tryz.underlying110 (by decide) [112, 117, 116] (.func (.func 91) #[] #[]) (by decide)
 obtain ⟨y5, r5, m5, g5⟩ := m4.store (t := 110) Tryz.underlying110 (by decide) [105, 110, 99] (.func (.func 92) #[] #[]) (by decide)
 obtain ⟨y6, r6, m6, g6⟩ := m5.store (t := 110) Tryz.underlying110 (by decide) [102, 97, 105, 108] (.func (.func 93) #[] #[]) (by decide)
 have hB : Hid (Below w.heap.size w y6) := by
  have h0 : Below w.heap.size w (w.alloc (.map #[] 0)) := (Below.refl _ _).alloc (Nat.le_refl _) _
  have hk : ∀ k, some w.heap.size = some k → w.heap.size ≤ k := fun k hk => by injection hk with hk; omega
  have h1 := h0.grown g1 h0.size hk
  have h2 := h1.grown g2 h1.size hk
  have h3 := h2.grown g3 h2.size hk
  have h4 := h3.grown g4 h3.size hk
  have h5 := h4.grown g5 h4.size hk
  exact h5.grown g6 h5.size hk
 have hM : Hid (OwnsV y6 w.heap.size 6 verbF) := m6
 clear m1 m2 m3 m4 m5 m6 g1 g2 g3 g4 g5 g6 hm0
 go_enter Tryz.func64, Tryz.ntmps64
 go_wp2_with fail
 go_ret
 exact ⟨rfl, hM.out, hB.out⟩
end Go.Proofs.YtnegfigaiomehaaGreatDoor.Ck
end
section
namespace Go.Proofs.YtnegfigaiomehaaGreatDoor.P
open Go.RowKit Go.Proofs.YtnegfigaiomehaaGreatDoorW.PrintWords Go.Proofs.YtnegfigaiomehaaGreatDoorW.PrintLast Go.Proofs.YtnegfigaiomehaaGreatDoorW.PrintMore
attribute [local go_sem] max2_int min2_int max_two min_two max_three min_three max_four min_four
def errW : Option Int → Value
 | none => .nilIface
 | some c => .iface 0 (.int .i64 c)
theorem errW_none : errW none = .nilIface := rfl
theorem errW_some (c : Int) : errW (some c) = .iface 0 (.int .i64 c) := rfl
theorem info9 : (Tryz.prog.info? 9).map (fun i => (i.zero, i.size, i.bytes)) = some (some (.string ⟨#[]⟩), 1, 16) := by kernel_rfl
structure S51 where
 f0 : (List ByteArray)
 f1 : (List ByteArray)
 f2 : (List ByteArray)
 f3 : (List ByteArray)
 f4 : ByteArray
 f5 : ByteArray
def z51 : S51 := ⟨([] : List ByteArray), ([] : List ByteArray), ([] : List ByteArray), ([] : List ByteArray), (⟨#[]⟩ : ByteArray), (⟨#[]⟩ : ByteArray)⟩
def k51 : Kd S51 := Kd.iso (Kd.pair (Kd.slice 9 Kd.string) (Kd.pair (Kd.slice 9 Kd.string) (Kd.pair (Kd.slice 9 Kd.string) (Kd.pair (Kd.slice 9 Kd.string) (Kd.pair Kd.string Kd.string))))) (fun x : S51 => (x.f0, x.f1, x.f2, x.f3, x.f4, x.f5))
theorem k51_open {w : World} {x : S51} {cs : List Value} (h : k51.K w x cs) : ∃ A0 c0 A1 c1 A2 c2 A3 c3, cs = [.slice A0 x.f0.length c0, .slice A1 x.f1.length c1, .slice A2 x.f2.length c2, .slice A3 x.f3.length c3, .string x.f4, .string x.f5] ∧ x.f0.length ≤ c0 ∧ Kd.string.C w A0 x.f0.length x.f0 ∧ x.f1.length ≤ c1 ∧ Kd.string.C w A1 x.f1.length x.f1 ∧ x.f2.length ≤ c2 ∧ Kd.string.C w A2 x.f2.length x.f2 ∧ x.f3.length ≤ c3 ∧ Kd.string.C w A3 x.f3.length x.f3 := by
 obtain ⟨_, _, rfl, ⟨A0, c0, rfl, l0, g0⟩, ⟨_, _, rfl, ⟨A1, c1, rfl, l1, g1⟩, ⟨_, _, rfl, ⟨A2, c2, rfl, l2, g2⟩, ⟨_, _, rfl, ⟨A3, c3, rfl, l3, g3⟩, ⟨_, _, rfl, rfl, rfl⟩⟩⟩⟩⟩ := h
 exact ⟨A0, c0, A1, c1, A2, c2, A3, c3, rfl, l0, g0, l1, g1, l2, g2, l3, g3⟩
def rd_T51 (xs : List S51) (i : Int) : S51 := xs.getD i.toNat z51
theorem at_T51 {w : World} {A : Option Addr} {n : Nat} {xs : List S51} (h : Kd.C k51 w A n xs) (i : Int) (h0 : 0 ≤ i) (h1 : i < n) : ∃ ad A0 c0 A1 c1 A2 c2 A3 c3, A = some ad ∧ w.cell? (ad.add (i.toNat * 6)) = some (.slice A0 (rd_T51 xs i).f0.length c0) ∧ w.cell? ⟨(ad.add (i.toNat * 6)).block, (ad.add (i.toNat * 6)).off + 1, none⟩ = some (.slice A1 (rd_T51 xs i).f1.length c1) ∧ w.cell? ⟨(ad.add (i.toNat * 6)).block, (ad.add (i.toNat * 6)).off + 2, none⟩ = some (.slice A2 (rd_T51 xs i).f2.length c2) ∧ w.cell? ⟨(ad.add (i.toNat * 6)).block, (ad.add (i.toNat * 6)).off + 3, none⟩ = some (.slice A3 (rd_T51 xs i).f3.length c3) ∧ w.cell? ⟨(ad.add (i.toNat * 6)).block, (ad.add (i.toNat * 6)).off + 4, none⟩ = some (.string (rd_T51 xs i).f4) ∧ w.cell? ⟨(ad.add (i.toNat * 6)).block, (ad.add (i.toNat * 6)).off + 5, none⟩ = some (.string (rd_T51 xs i).f5) ∧ (rd_T51 xs i).f0.length ≤ c0 ∧ Kd.string.C w A0 (rd_T51 xs i).f0.length (rd_T51 xs i).f0 ∧ (rd_T51 xs i).f1.length ≤ c1 ∧ Kd.string.C w A1 (rd_T51 xs i).f1.length (rd_T51 xs i).f1 ∧ (rd_T51 xs i).f2.length ≤ c2 ∧ Kd.string.C w A2 (rd_T51 xs i).f2.length (rd_T51 xs i).f2 ∧ (rd_T51 xs i).f3.length ≤ c3 ∧ Kd.string.C w A3 (rd_T51 xs i).f3.length (rd_T51 xs i).f3 := by
 obtain ⟨ad, c, e, _, hK, hc0⟩ := Kd.C_get h z51 i h0 h1
 have hc : ∀ j u, c[j]? = some u → w.cell? (ad.add (i.toNat * 6 + j)) = some u := hc0
 obtain ⟨A0, c0, A1, c1, A2, c2, A3, c3, rfl, l0, g0, l1, g1, l2, g2, l3, g3⟩ := k51_open hK
 exact ⟨ad, A0, c0, A1, c1, A2, c2, A3, c3, e, hc 0 _ rfl, by rw [← add_field _ _ 1 (by omega)]; exact hc 1 _ rfl, by rw [← add_field _ _ 2 (by omega)]; exact hc 2 _ rfl, by rw [← add_field _ _ 3 (by omega)]; exact hc 3 _ rfl, by rw [← add_field _ _ 4 (by omega)]; exact hc 4 _ rfl, by rw [← add_field _ _ 5 (by omega)]; exact hc 5 _ rfl, l0, g0, l1, g1, l2, g2, l3, g3⟩
structure S39 where
 f0 : ByteArray
 f1 : (List Int)
def z39 : S39 := ⟨(⟨#[]⟩ : ByteArray), ([] : List Int)⟩
def k39 : Kd S39 := Kd.iso (Kd.pair Kd.string (Kd.slice 5 (Kd.int .u8))) (fun x : S39 => (x.f0, x.f1))
theorem k39_open {w : World} {x : S39} {cs : List Value} (h : k39.K w x cs) : ∃ A1 c1, cs = [.string x.f0, .slice A1 x.f1.length c1] ∧ x.f1.length ≤ c1 ∧ (Kd.int .u8).C w A1 x.f1.length x.f1 := by
 obtain ⟨_, _, rfl, rfl, ⟨A1, c1, rfl, l1, g1⟩⟩ := h
 exact ⟨A1, c1, rfl, l1, g1⟩
theorem k39_mk (w : World) (x : S39) {A1 : Option Addr} {c1 : Nat} (l1 : x.f1.length ≤ c1) (g1 : (Kd.int .u8).C w A1 x.f1.length x.f1) : k39.K w x [.string x.f0, .slice A1 x.f1.length c1] := ⟨[.string x.f0], [.slice A1 x.f1.length c1], rfl, rfl, ⟨A1, c1, rfl, l1, g1⟩⟩
def rd_T39 (xs : List S39) (i : Int) : S39 := xs.getD i.toNat z39
theorem at_T39 {w : World} {A : Option Addr} {n : Nat} {xs : List S39} (h : Kd.C k39 w A n xs) (i : Int) (h0 : 0 ≤ i) (h1 : i < n) : ∃ ad A1 c1, A = some ad ∧ w.cell? (ad.add (i.toNat * 2)) = some (.string (rd_T39 xs i).f0) ∧ w.cell? ⟨(ad.add (i.toNat * 2)).block, (ad.add (i.toNat * 2)).off + 1, none⟩ = some (.slice A1 (rd_T39 xs i).f1.length c1) ∧ (rd_T39 xs i).f1.length ≤ c1 ∧ (Kd.int .u8).C w A1 (rd_T39 xs i).f1.length (rd_T39 xs i).f1 := by
 obtain ⟨ad, c, e, _, hK, hc0⟩ := Kd.C_get h z39 i h0 h1
 have hc : ∀ j u, c[j]? = some u → w.cell? (ad.add (i.toNat * 2 + j)) = some u := hc0
 obtain ⟨A1, c1, rfl, l1, g1⟩ := k39_open hK
 exact ⟨ad, A1, c1, e, hc 0 _ rfl, by rw [← add_field _ _ 1 (by omega)]; exact hc 1 _ rfl, l1, g1⟩
structure S40 where
 f0 : ByteArray
 f1 : (List Int)
def z40 : S40 := ⟨(⟨#[]⟩ : ByteArray), ([] : List Int)⟩
def k40 : Kd S40 := Kd.iso (Kd.pair Kd.string (Kd.slice 5 (Kd.int .u8))) (fun x : S40 => (x.f0, x.f1))
theorem k40_open {w : World} {x : S40} {cs : List Value} (h : k40.K w x cs) : ∃ A1 c1, cs = [.string x.f0, .slice A1 x.f1.length c1] ∧ x.f1.length ≤ c1 ∧ (Kd.int .u8).C w A1 x.f1.length x.f1 := by
 obtain ⟨_, _, rfl, rfl, ⟨A1, c1, rfl, l1, g1⟩⟩ := h
 exact ⟨A1, c1, rfl, l1, g1⟩
theorem k40_mk (w : World) (x : S40) {A1 : Option Addr} {c1 : Nat} (l1 : x.f1.length ≤ c1) (g1 : (Kd.int .u8).C w A1 x.f1.length x.f1) : k40.K w x [.string x.f0, .slice A1 x.f1.length c1] := ⟨[.string x.f0], [.slice A1 x.f1.length c1], rfl, rfl, ⟨A1, c1, rfl, l1, g1⟩⟩
def rd_T40 (xs : List S40) (i : Int) : S40 := xs.getD i.toNat z40
theorem at_T40 {w : World} {A : Option Addr} {n : Nat} {xs : List S40} (h : Kd.C k40 w A n xs) (i : Int) (h0 : 0 ≤ i) (h1 : i < n) : ∃ ad A1 c1, A = some ad ∧ w.cell? (ad.add (i.toNat * 2)) = some (.string (rd_T40 xs i).f0) ∧ w.cell? ⟨(ad.add (i.toNat * 2)).block, (ad.add (i.toNat * 2)).off + 1, none⟩ = some (.slice A1 (rd_T40 xs i).f1.length c1) ∧ (rd_T40 xs i).f1.length ≤ c1 ∧ (Kd.int .u8).C w A1 (rd_T40 xs i).f1.length (rd_T40 xs i).f1 := by
 obtain ⟨ad, c, e, _, hK, hc0⟩ := Kd.C_get h z40 i h0 h1
 have hc : ∀ j u, c[j]? = some u → w.cell? (ad.add (i.toNat * 2 + j)) = some u := hc0
 obtain ⟨A1, c1, rfl, l1, g1⟩ := k40_open hK
 exact ⟨ad, A1, c1, e, hc 0 _ rfl, by rw [← add_field _ _ 1 (by omega)]; exact hc 1 _ rfl, l1, g1⟩
end Go.Proofs.YtnegfigaiomehaaGreatDoor.P
end
section
theorem Go.Proofs.YtnegfigaiomehaaGreatDoor.P.info5 : (Tryz.prog.info? 5).map (fun i => (i.zero, i.size, i.bytes)) = some (some (.int .u8 0), 1, 1) := by kernel_rfl
namespace Go.Proofs.YtnegfigaiomehaaGreatDoor.Ck
open Go.RowKit Go.Lib Go.Maps Go.Proofs.YtnegfigaiomehaaGreatDoorW.PrintWords Go.Proofs.YtnegfigaiomehaaGreatDoorW.PrintLast Go.Proofs.YtnegfigaiomehaaGreatDoorW.PrintMore Go.Proofs.YtnegfigaiomehaaGreatDoor.U Go.Proofs.YtnegfigaiomehaaGreatDoor.P Go.Proofs.YtnegfigaiomehaaGreatDoor.MapV
abbrev SF := S40
abbrev KF := k40
abbrev SG := S39
abbrev KG := k39
theorem addr_plain {w : World} {ad : Addr} {v : Value} (h : w.cell? ad = some v) : ad = ⟨ad.block, ad.off, none⟩ := by
 obtain ⟨b, o, s⟩ := ad
 cases s with
 | none => rfl
 | some s =>
  unfold World.cell? at h
  simp only [Option.isSome_some, if_true] at h
  split at h <;> cases h
theorem cell_add {w : World} {ad : Addr} {i : Nat} {v : Value} (h : w.cell? (ad.add (i + 1)) = some v) : w.cell? ⟨ad.block, ad.off + (i + 1), none⟩ = some v := by
 have e := addr_plain h
 have e1 : (ad.add (i + 1)).block = ad.block := by simp [Addr.add]
 have e2 : (ad.add (i + 1)).off = ad.off + (i + 1) := by simp [Addr.add]
 rw [e1, e2] at e
 rw [← e]; exact h
theorem below_cell {w w' : World} {a : Addr} {v : Value} (hB : Below w.heap.size w w') (h : w.cell? a = some v) : w'.cell? a = some v :=
 (World.cell?_of_block (hB.block _ (World.block_lt_of_cell? w _ h))).trans h
structure FileL where
 n : Txt
 b : Txt
deriving DecidableEq
def findL (fs : List FileL) (nm : Txt) : Option Txt := (fs.find? fun f => f.n == nm).map FileL.b
def ints (b : Txt) : List Int := b.map fun c => (c.toNat : Int)
def toF (f : FileL) : SF := ⟨B f.n, ints f.b⟩
theorem ints_len (b : Txt) : (ints b).length = b.length := List.length_map ..
theorem ints_append (a b : Txt) : ints (a ++ b) = ints a ++ ints b := List.map_append ..
theorem file_at {w : World} {A : Option Addr} {fs : List FileL} (h : Kd.C KF w A (fs.map toF).length (fs.map toF)) (i : Nat) (hi : i < fs.length) : ∃ ad A1 c1, A = some ad ∧
  w.cell? (ad.add (i * 2)) = some (.string (B fs[i].n)) ∧ w.cell? ⟨(ad.add (i * 2)).block, (ad.add (i * 2)).off + 1, none⟩ = some (.slice A1 fs[i].b.length c1) ∧ fs[i].b.length ≤ c1 ∧ (Kd.int .u8).C w A1 fs[i].b.length (ints fs[i].b) := by
 obtain ⟨ad, A1, c1, rfl, k0, k1, l1, g1⟩ := at_T40 h (i : Int) (by omega) (by rw [List.length_map]; omega)
 have hx : rd_T40 (fs.map toF) (i : Int) = toF fs[i] := by
  show (fs.map toF).getD (i : Int).toNat _ = _
  rw [Int.toNat_natCast, List.getD_eq_getElem?_getD, List.getElem?_map, List.getElem?_eq_getElem hi]; rfl
 rw [Int.toNat_natCast] at k0 k1
 rw [hx] at k0 k1 l1 g1
 have e1 : (toF fs[i]).f1.length = fs[i].b.length := ints_len _
 rw [e1] at k1 l1 g1
 exact ⟨ad, A1, c1, rfl, k0, k1, l1, g1⟩
theorem text_at {w : World} {A : Option Addr} {ws : List Txt} (h : Kd.C Kd.string w A ws.length (ws.map B)) (i : Nat) (hi : i < ws.length) : ∃ ad, A = some ad ∧ w.cell? (ad.add i) = some (.string (B ws[i])) := by
 obtain ⟨ad, c, e, _, hK, hc0⟩ := Kd.C_get (d := Kd.string) (n := ws.length) h ByteArray.empty (i : Int) (by omega) (by omega)
 refine ⟨ad, e, ?_⟩
 have hx : (ws.map B).getD (i : Int).toNat ByteArray.empty = B ws[i] := by
  rw [Int.toNat_natCast, List.getD_eq_getElem?_getD, List.getElem?_map, List.getElem?_eq_getElem hi]; rfl
 rw [hx] at hK
 have hK' : c = [.string (B ws[i])] := hK
 subst hK'
 have := hc0 0 _ rfl
 rwa [show (i : Int).toNat * Kd.string.sz + 0 = i by show (i : Int).toNat * 1 + 0 = i; omega] at this
end Go.Proofs.YtnegfigaiomehaaGreatDoor.Ck
end
section
namespace Go.Proofs.YtnegfigaiomehaaGreatDoor.Rng
open Go.RowKit Go.Shelf
variable {P : Program}
def Kept3 (b : Nat) (W W' : World) : Prop := W'.heap[b]? = W.heap[b]? ∧ W'.heap[b + 1]? = W.heap[b + 1]? ∧ W'.heap[b + 2]? = W.heap[b + 2]?
theorem Kept3.refl (b : Nat) (W : World) : Kept3 b W W := ⟨rfl, rfl, rfl⟩
theorem Kept3.trans {b : Nat} {A B C : World} (h : Kept3 b A B) (k : Kept3 b B C) : Kept3 b A C := ⟨k.1.trans h.1, k.2.1.trans h.2.1, k.2.2.trans h.2.2⟩
theorem Kept3.putObj {b l : Nat} (W : World) (o : Obj) (h : b + 2 < l) : Kept3 b W (W.putObj l o) :=
 ⟨World.putObj_heap_other (by omega), World.putObj_heap_other (by omega), World.putObj_heap_other (by omega)⟩
def SeqOf (P : Program) (gf : Nat) (lb : Array Value) (b : Nat) (xs : List ByteArray) (w : World) : Prop :=
 ∀ (l : Nat) (J Jx : List ByteArray → World → Prop) (W : World), Below w.heap.size w W →
  (∀ pre W1 u, J pre W1 → J pre (W1.setCell ⟨b, 0, none⟩ u)) →
  (∀ pre x W1, J pre W1 → (pre ++ [x]) <+: xs → YieldAt Fence.wide 1 P l #[.string x] W1 fun e W' =>
   (e = .returned (.bool true) ∧ J (pre ++ [x]) W' ∧ Kept3 b W1 W') ∨ (e = .returned (.bool false) ∧ Jx (pre ++ [x]) W')) →
  J [] W →
  CallsIn Fence.wide 2 P gf (#[.func (.yield l) #[] #[]] ++ lb) W fun e W' => (∃ v, e = .returned v) ∧ (J xs W' ∨ ∃ pre, pre <+: xs ∧ Jx pre W')
theorem wp_range_str {g : Operand} {p : Tmp} {assign body : Code} {Q : Exit → Act → World → Prop} {a : Act} {w : World} {gf : Nat} {lb : Array Value} {b : Nat} {xs : List ByteArray} {w0 : World}
  (hg : a.eval g = .func (.func gf) #[] lb) (eg : ∀ args w, (callFunc gf args).run P w = .ok (.enter gf args) w)
  (hseq : SeqOf P gf lb b xs w0) (hb0 : Below w0.heap.size w0 w) (hbw : b + 2 < w.heap.size)
  (I : List ByteArray → World → Prop) (Ix : Code → List ByteArray → World → Prop) (hI : OwnFrom w.heap.size I) (hIx : ∀ c, OwnFrom w.heap.size (Ix c))
  (hIs : ∀ pre W u, I pre W → I pre (W.setCell ⟨b, 0, none⟩ u)) (h0 : I [] w) (a₁ : ByteArray → Act)
  (hassign : ∀ (l : Nat) (x : ByteArray) (W : World) (K : Act → World → Prop), K (a₁ x) W →
   assign.wpIn (Fence.wide.inRound l) 1 P (Exit.then K (fun _ _ _ => False)) { tmps := (#[p].zip #[Value.string x]).foldl (fun t (p, v) => t.setIfInBounds p v) a.tmps, defers := [] } W)
  (hbody : ∀ (l : Nat) (pre : List ByteArray) (x : ByteArray) (W : World), I pre W → (pre ++ [x]) <+: xs → body.wpIn (Fence.wide.inRound l) 1 P (ownPostG w.heap.size (Kept3 b) I Ix (pre ++ [x]) W) (a₁ x) W)
  (hdone : ∀ (D : Nat) (W : World), w.heap.size ≤ D → I xs W → W.heap[D]? = some (.deferred (some [])) → Q .normal { a with defers := { target := .collected D, args := #[] } :: a.defers } W)
  (hstop : ∀ (D : Nat) (c : Code) (pre : List ByteArray) (W : World), w.heap.size ≤ D → pre <+: xs → Ix c pre W → W.heap[D]? = some (.deferred (some [])) → c.wpIn Fence.wide 3 P Q { a with defers := { target := .collected D, args := #[] } :: a.defers } W) :
  (Code.rangeFunc g #[p] assign body).wpIn Fence.wide 3 P Q a w := by
 refine wpIn_rangeFunc ?_
 intro fn hfn
 obtain ⟨rec, hrec⟩ : ∃ rec : LoopState → Option Code → Loop, rec = fun st pe => { state := st, pending := pe, fn, tmps := a.tmps, params := #[p], assign, body, defers := w.heap.size } := ⟨_, rfl⟩
 obtain ⟨W1, hW1⟩ : ∃ W1, (w.alloc (.deferred (some []))).alloc (.loop (rec .ready none)) = W1 := ⟨_, rfl⟩
 have hL1 : W1.heap[w.heap.size + 1]? = some (.loop (rec .ready none)) := by
  rw [← hW1]; have := World.alloc_heap_new (w.alloc (.deferred (some []))) (.loop (rec .ready none)); rwa [World.size_alloc] at this
 have hD1 : W1.heap[w.heap.size]? = some (.deferred (some [])) := by
  rw [← hW1]; exact (Below.heap_alloc _ _ _ (by simp)).trans (World.alloc_heap_new w _)
 have hI1 : I [] W1 := by rw [← hW1]; exact hI.alloc _ (hI.alloc _ h0)
 have hb1 : Below w0.heap.size w0 W1 := by
  rw [← hW1]; exact hb0.trans ((((Below.refl _ w).alloc (Nat.le_refl _) _).alloc (by simp) _).mono hb0.size)
 refine ⟨w.heap.size + 1, [{ target := .collected w.heap.size, args := #[] }], W1, { target := .fn (.func gf) lb, args := #[.func (.yield (w.heap.size + 1)) #[] #[]] }, W1, gf,
  #[.func (.yield (w.heap.size + 1)) #[] #[]] ++ lb, W1, ?_, ?_, ?_, ?_, fun _ => by omega, ?_⟩
 ·rw [← hW1, hrec]; exact run_enterLoop_outer _ _ _ _ _
 ·simp only [resolve, hg]
  simp [go_sem]
 ·intro f' hf'; trivial
 ·simp [invoke, go_sem, eg]
 ·refine (hseq (w.heap.size + 1)
   (fun pre W => I pre W ∧ W.heap[w.heap.size + 1]? = some (.loop (rec .ready none)) ∧ W.heap[w.heap.size]? = some (.deferred (some [])))
   (fun pre W => ∃ c, Ix c pre W ∧ W.heap[w.heap.size + 1]? = some (.loop (rec .done (some c))) ∧ W.heap[w.heap.size]? = some (.deferred (some [])))
   W1 hb1
   (fun pre W u hs => ⟨hIs pre W u hs.1, (KeepsOthers.setCell W _ u).same _ _ hs.2.1 rfl, (KeepsOthers.setCell W _ u).same _ _ hs.2.2 rfl⟩)
   ?_ ⟨hI1, hL1, hD1⟩).mono ?_
  ·rintro pre x W ⟨hi, hl, hk⟩ hpx
   have hlt : w.heap.size + 1 < W.heap.size := (Array.getElem?_eq_some_iff.1 hl).1
   have hy := run_yield (P := P) (args := #[.string x]) hl (by rw [hrec]; rfl)
   rw [hrec] at hy
   refine ⟨fn, _, assign, body, hy, roundIn_of_wpIn hfn (hassign _ x W _ ⟨_, run_beginRound hl (by rw [hrec]), ?_⟩)⟩
   obtain ⟨W2, hW2⟩ : ∃ W2, W.putObj (w.heap.size + 1) (.loop { rec .ready none with state := .busy }) = W2 := ⟨_, rfl⟩
   have hl2 : W2.heap[w.heap.size + 1]? = some (.loop { rec .ready none with state := .busy }) := by rw [← hW2]; exact World.putObj_heap_same hlt
   have hk2 : W2.heap[w.heap.size]? = some (.deferred (some [])) := by rw [← hW2]; exact (World.putObj_heap_other (by omega)).trans hk
   have hs2 : Kept3 b W W2 := by rw [← hW2]; exact Kept3.putObj _ _ (by omega)
   have hi2 : I pre W2 := by rw [← hW2]; exact hI.putObj _ hi (by omega) hl rfl
   rw [hW2]
   refine wpIn_mono (hbody _ pre x _ hi2 hpx) ?_
   have fin : ∀ (jump : Option Code) (W3 : World), KeepsFrom w.heap.size W2 W3 →
     (Instr.endRound (w.heap.size + 1) jump).run P W3 = .ok (.bool jump.isNone) (W3.putObj (w.heap.size + 1) (.loop (rec (if jump.isNone then .ready else .done) jump))) ∧
     W3.heap[w.heap.size + 1]? = some (.loop { rec .ready none with state := .busy }) ∧
     (W3.putObj (w.heap.size + 1) (.loop (rec (if jump.isNone then .ready else .done) jump))).heap[w.heap.size + 1]? = some (.loop (rec (if jump.isNone then .ready else .done) jump)) ∧
     (W3.putObj (w.heap.size + 1) (.loop (rec (if jump.isNone then .ready else .done) jump))).heap[w.heap.size]? = some (.deferred (some [])) := fun jump W3 hk3 => by
    have hl3 := hk3.same _ _ (by omega) hl2 rfl
    have h := run_endRound (P := P) jump hl3
    rw [hrec] at h ⊢
    exact ⟨h, by rw [hrec] at hl3; exact hl3, World.putObj_heap_same (Array.getElem?_eq_some_iff.1 hl3).1, (World.putObj_heap_other (by omega)).trans (hk3.same _ _ (Nat.le_refl _) hk2 rfl)⟩
   have out : ∀ (c : Code) (W3 : World), KeepsFrom w.heap.size W2 W3 → Ix c (pre ++ [x]) W3 → ∃ c', Ix c' (pre ++ [x]) (W3.putObj (w.heap.size + 1) (.loop (rec .done (some c)))) ∧
     (W3.putObj (w.heap.size + 1) (.loop (rec .done (some c)))).heap[w.heap.size + 1]? = some (.loop (rec .done (some c'))) ∧ (W3.putObj (w.heap.size + 1) (.loop (rec .done (some c)))).heap[w.heap.size]? = some (.deferred (some [])) := fun c W3 hk3 hx3 => by
    obtain ⟨_, hl3, hl4, hk4⟩ := fin (some c) W3 hk3
    exact ⟨c, (hIx c).putObj _ hx3 (by omega) hl3 rfl, hl4, hk4⟩
   rintro e a3 W3 hp
   cases e with
   | normal =>
    obtain ⟨hk3, hkp3, hi3⟩ := hp
    obtain ⟨hr, hl3, hl4, hk4⟩ := fin none W3 hk3
    exact ⟨_, _, hr, .inl ⟨rfl, ⟨hI.putObj _ hi3 (by omega) hl3 rfl, hl4, hk4⟩, (hs2.trans hkp3).trans (Kept3.putObj _ _ (by omega))⟩⟩
   | ret => exact ⟨_, _, (fin (some .ret) W3 hp.1).1, .inr ⟨rfl, out .ret W3 hp.1 hp.2⟩⟩
   | exit id => exact ⟨_, _, (fin (some (.exit id)) W3 hp.1).1, .inr ⟨rfl, out (.exit id) W3 hp.1 hp.2⟩⟩
   | goto t => exact ⟨_, _, (fin (some (.goto t)) W3 hp.1).1, .inr ⟨rfl, out (.goto t) W3 hp.1 hp.2⟩⟩
   | panic ch => exact hp.elim
   | outgrown => exact hp.elim
  ·rintro e W2 ⟨⟨v, rfl⟩, (⟨hi, hl, hk⟩ | ⟨pre, hSp, c, hi, hl, hk⟩)⟩
   ·exact ⟨none, _, by have h := run_endLoop (P := P) hl (by rw [hrec]; simp); rw [hrec] at h; exact h, hdone _ _ (Nat.le_refl _) (hI.putObj _ hi (by omega) hl rfl) ((World.putObj_heap_other (by omega)).trans hk)⟩
   ·exact ⟨some c, _, by have h := run_endLoop (P := P) hl (by rw [hrec]; simp); rw [hrec] at h; exact h, hstop _ c pre _ (Nat.le_refl _) hSp ((hIx c).putObj _ hi (by omega) hl rfl) ((World.putObj_heap_other (by omega)).trans hk)⟩
end Go.Proofs.YtnegfigaiomehaaGreatDoor.Rng
end
section
namespace Go.Proofs.YtnegfigaiomehaaGreatDoor.P
open Go.RowKit Go.Shelf Go.Proofs.YtnegfigaiomehaaGreatDoor.U Go.Proofs.YtnegfigaiomehaaGreatDoor.Rng
def splitK (c : UInt8) (k : Nat) : List UInt8 → List (List UInt8)
  | [] => [[]]
  | b :: l => if b = c then [c].take k :: splitK c k l else match splitK c k l with
    | [] => [[b]]
    | p :: ps => (b :: p) :: ps
theorem splitK_ne (c : UInt8) (k : Nat) (l : List UInt8) : splitK c k l ≠ [] := by
  cases l with
  | nil => simp [splitK]
  | cons b l => unfold splitK; split
                · simp
                · split <;> simp
theorem splitK_none (c : UInt8) (k : Nat) (l : List UInt8) (h : c ∉ l) : splitK c k l = [l] := by
  induction l with
  | nil => rfl
  | cons b l ih =>
    have h1 : b ≠ c := fun e => h (by simp [e])
    rw [splitK, if_neg h1, ih (fun e => h (by simp [e]))]
theorem splitK_at (c : UInt8) (k : Nat) (a l : List UInt8) (h : c ∉ a) : splitK c k (a ++ c :: l) = (a ++ [c].take k) :: splitK c k l := by
  induction a with
  | nil => simp [splitK]
  | cons b a ih =>
    have h1 : b ≠ c := fun e => h (by simp [e])
    rw [List.cons_append, splitK, if_neg h1, ih (fun e => h (by simp [e]))]
    simp
theorem index_cases (l : List UInt8) (c : UInt8) : (Lib.indexByte l c = -1 ∧ c ∉ l) ∨ ∃ a r, l = a ++ c :: r ∧ c ∉ a ∧ Lib.indexByte l c = (a.length : Int) := by
  induction l with
  | nil => exact .inl ⟨rfl, by simp⟩
  | cons b l ih =>
    by_cases hb : b = c
    · exact .inr ⟨[], l, by simp [hb], by simp, by simp [Lib.indexByte, hb]⟩
    · rcases ih with ⟨h1, h2⟩ | ⟨a, r, rfl, h2, h3⟩
      · exact .inl ⟨by simp [Lib.indexByte, hb, h1], by simp [h2, Ne.symm hb]⟩
      · refine .inr ⟨b :: a, r, rfl, by simp [h2, Ne.symm hb], ?_⟩
        unfold Lib.indexByte
        rw [h3]
        have : ¬ ((a.length : Int) == -1) = true := by simp
        simp [hb]
attribute [local go_sem] Oper.semAt_some
set_option maxRecDepth 100000 in
set_option maxHeartbeats 4000000 in
theorem split_seq (c : UInt8) (k : Nat) (hk : k ≤ 1) (b : Nat) (s : List UInt8) (hs : s.length ≤ 1000000) (w : World) (hlt : b + 2 < w.heap.size)
    (hb0 : w.heap[b]? = some (.cells #[.string (B s)] 9 (0, 0))) (hb1 : w.heap[b + 1]? = some (.cells #[.string (B [c])] 9 (0, 0))) (hb2 : w.heap[b + 2]? = some (.cells #[.int .i64 (k : Int)] 3 (0, 0))) :
    SeqOf Tryz.prog 185 #[.pointer (some ⟨b + 1, 0, none⟩), .pointer (some ⟨b, 0, none⟩), .pointer (some ⟨b + 2, 0, none⟩)] b ((splitK c k s).map B) w := by
  intro l J Jx W hW hJs hY hJ0
  have HB0 : W.heap[b]? = some (.cells #[.string (B s)] 9 (0, 0)) := (hW.block _ (by omega)).trans hb0
  have HB1 : W.heap[b + 1]? = some (.cells #[.string (B [c])] 9 (0, 0)) := (hW.block _ (by omega)).trans hb1
  have HB2 : W.heap[b + 2]? = some (.cells #[.int .i64 (k : Int)] 3 (0, 0)) := (hW.block _ (by omega)).trans hb2
  clear hb0 hb1 hb2
  have c1 := cell_of_one HB1
  refine callsIn_of_wp Tryz.func185 rfl trivial ?_ rfl
  simp only [Tryz.ntmps185, List.size_toArray, List.length_cons, List.length_nil, Nat.reduceAdd, Nat.reduceSub, Array.replicate_succ, Array.replicate_zero, List.push_toArray, List.append_toArray, List.nil_append, List.cons_append]
  gi_wp2_with fail
  gi_loopg [] (s.length + 1) (fun gk wr => ∃ (pre : List ByteArray) (r : List UInt8), (splitK c k s).map B = pre ++ (splitK c k r).map B ∧ r.length < gk ∧ r.length ≤ 1000000 ∧
    Hid (wr.heap[b]? = some (.cells #[.string (B r)] 9 (0, 0))) ∧ Hid (wr.heap[b + 1]? = some (.cells #[.string (B [c])] 9 (0, 0))) ∧ Hid (wr.heap[b + 2]? = some (.cells #[.int .i64 (k : Int)] 3 (0, 0))) ∧ Hid (J pre wr))
  case atStart => exact ⟨[], s, rfl, by omega, hs, HB0, HB1, HB2, hJ0⟩
  case round =>
    clear c1
    obtain ⟨pre, r, hx, hgk, hr, h0, h1, h2, hj⟩ := hrel
    have c0 := cell_of_one h0.out
    have c1 := cell_of_one h1.out
    have c2 := cell_of_one h2.out
    have f0 := free_of_one h0.out
    have HX := Lib.hid hx
    clear hx
    rcases index_cases r c with ⟨hi, hn⟩ | ⟨a, r', hr', hn, hi⟩
    · have HC : Hid (∀ W, CallsIn Fence.wide 1 Tryz.prog 187 #[.string (B r), .string (B [c])] W fun e w' => e = .returned (.int .i64 (-1)) ∧ W = w') := fun W => by
        have h := Tryz.strings_Index_one (B r) c W
        rw [data_B, hi] at h
        exact callsIn_wide.2 (h.mono fun e w' ⟨he, hw⟩ => ⟨he, hw.symm⟩)
      clear hi
      obtain ⟨fn, tmps, assign, body, hy, hR⟩ := hY pre (B r) wr hj.out (by rw [HX.out, splitK_none c k r hn]; simp)
      gi_wp2_with fail
      refine ⟨trivial, (HC.out _).mono ?_⟩
      rintro e w' ⟨rfl, rfl⟩
      gi_wp2_with fail
      refine hR.mono ?_
      rintro e W3 (⟨rfl, hJ3, hk3⟩ | ⟨rfl, hJx3⟩)
      · gi_wp2_with fail
        go_end0
        exact ⟨⟨_, rfl⟩, .inl (by rw [HX.out, splitK_none c k r hn]; exact hJ3)⟩
      · gi_wp2_with fail
        go_end0
        exact ⟨⟨_, rfl⟩, .inr ⟨_, by rw [HX.out, splitK_none c k r hn]; simp, hJx3⟩⟩
    · have HC : Hid (∀ W, CallsIn Fence.wide 1 Tryz.prog 187 #[.string (B r), .string (B [c])] W fun e w' => e = .returned (.int .i64 (a.length : Int)) ∧ W = w') := fun W => by
        have h := Tryz.strings_Index_one (B r) c W
        rw [data_B, hi] at h
        exact callsIn_wide.2 (h.mono fun e w' ⟨he, hw⟩ => ⟨he, hw.symm⟩)
      clear hi
      have hlen : r.length = a.length + 1 + r'.length := by rw [hr']; simp; omega
      have hsz : (B r).size = a.length + 1 + r'.length := by rw [size_B, hlen]
      have ha1 : (a.length : Int) + (k : Int) ≤ (a.length : Int) + 1 + (r'.length : Int) := by omega
      have E1 : Hid ((B r).extract 0 (a.length + k) = B (a ++ [c].take k)) := by
        show (B r).extract 0 (a.length + k) = B (a ++ [c].take k)
        rw [extract_B, hr', List.drop_zero, List.take_append, List.take_of_length_le (by omega)]
        have : (c :: r').take (a.length + k - a.length) = [c].take k := by
          rw [Nat.add_sub_cancel_left]
          match k, hk with
          | 0, _ => rfl
          | 1, _ => rfl
        rw [this]
      have E2 : Hid ((B r).extract (a.length + 1) (a.length + 1 + r'.length) = B r') := by
        show (B r).extract (a.length + 1) (a.length + 1 + r'.length) = B r'
        rw [extract_B, List.take_of_length_le (by omega), hr', List.drop_append]
        simp
      have HS : Hid (splitK c k r = (a ++ [c].take k) :: splitK c k r') := by
        show splitK c k r = _
        rw [hr', splitK_at c k a r' hn]
      obtain ⟨fn, tmps, assign, body, hy, hR⟩ := hY pre (B (a ++ [c].take k)) wr hj.out (by rw [HX.out, HS.out]; simp)
      have hr3 : r'.length ≤ 1000000 := by omega
      have hr4 : a.length ≤ 1000000 := by omega
      clear hr'
      gi_wp2_with fail
      refine ⟨trivial, (HC.out _).mono ?_⟩
      rintro e w' ⟨rfl, rfl⟩
      rw [← E1.out] at hy
      gi_wp2_with fail
      refine hR.mono ?_
      rintro e W3 (⟨rfl, hJ3, hk3⟩ | ⟨rfl, hJx3⟩)
      · have g0 := Lib.hid (hk3.1.trans h0.out)
        have g1 := Lib.hid (hk3.2.1.trans h1.out)
        have g2 := Lib.hid (hk3.2.2.trans h2.out)
        have d0 := cell_of_one g0.out
        have d1 := cell_of_one g1.out
        have e0 := free_of_one g0.out
        have J3 := Lib.hid hJ3
        obtain ⟨g', rfl⟩ : ∃ g', gk = g' + 1 := ⟨gk - 1, by omega⟩
        clear hk3 hJ3 c0 c1 c2 f0 hy hR
        gi_wp2_with fail
        gi_roundg g'
        case measure => omega
        case rel =>
          rw [E2.out]
          refine ⟨pre ++ [B (a ++ [c].take k)], r', ?_, by omega, hr3, one_setCell g0.out, ?_, ?_, hJs _ _ _ J3.out⟩
          · rw [HX.out, HS.out]; simp
          · exact (Below.heap_setCell _ _ _ _ (by show b + 1 ≠ b; omega)).trans g1.out
          · exact (Below.heap_setCell _ _ _ _ (by show b + 2 ≠ b; omega)).trans g2.out
      · gi_wp2_with fail
        refine bodyPost_ret (results_none rfl _ _ _) rfl ?_
        exact ⟨⟨_, rfl⟩, .inr ⟨_, by rw [HX.out, HS.out]; simp, hJx3⟩⟩
end Go.Proofs.YtnegfigaiomehaaGreatDoor.P
end
section
namespace Go.Proofs.YtnegfigaiomehaaGreatDoor.Fld
open Go.RowKit Go.Lib Go.Proofs.YtnegfigaiomehaaGreatDoor.U
abbrev Txt := List UInt8
def isBl (c : Nat) : Bool := c == 32
def flushF (w : Txt) : List Txt := if w = [] then [] else [w]
def fieldsGo : Txt → Txt → List Txt
 | w, [] => flushF w
 | w, b :: r => if b = 32 then flushF w ++ fieldsGo [] r else fieldsGo (w ++ [b]) r
def fieldsT (l : Txt) : List Txt := fieldsGo [] l
theorem fieldsGo_none (u : Txt) (h : (32 : UInt8) ∉ u) : ∀ (w r : Txt), fieldsGo w (u ++ r) = fieldsGo (w ++ u) r := by
 induction u with
 | nil => intro w r; simp
 | cons b u ih =>
  intro w r
  have hb : b ≠ 32 := fun e => h (by simp [e])
  rw [List.cons_append, fieldsGo, if_neg hb, ih (fun e => h (by simp [e]))]
  simp
theorem fieldsGo_len (r : Txt) : ∀ w, (fieldsGo w r).length ≤ r.length + 1 := by
 induction r with
 | nil => intro w; unfold fieldsGo flushF; split <;> simp
 | cons b r ih =>
  intro w
  rw [fieldsGo]
  split
  ·have h1 : (flushF w).length ≤ 1 := by unfold flushF; split <;> simp
   have := ih []
   rw [List.length_append, List.length_cons]; omega
  ·have := ih (w ++ [b])
   rw [List.length_cons]; omega
theorem dec_size (s : ByteArray) (pos : Nat) (h : pos < s.size) : 1 ≤ (Utf8.decode s pos).2 ∧ pos + (Utf8.decode s pos).2 ≤ s.size ∧
  (∀ j, 1 ≤ j → j < (Utf8.decode s pos).2 → 128 ≤ (s.get! (pos + j)).toNat) := by
 unfold Utf8.decode
 simp only [Nat.add_zero]
 obtain ⟨g0, h0⟩ : ∃ x, (s.get! pos).toNat = x := ⟨_, rfl⟩
 obtain ⟨g1, h1⟩ : ∃ x, (s.get! (pos + 1)).toNat = x := ⟨_, rfl⟩
 obtain ⟨g2, h2⟩ : ∃ x, (s.get! (pos + 2)).toNat = x := ⟨_, rfl⟩
 obtain ⟨g3, h3⟩ : ∃ x, (s.get! (pos + 3)).toNat = x := ⟨_, rfl⟩
 simp only [h0, h1, h2, h3]
 split
 ·exact ⟨Nat.le_refl _, by omega, fun j j1 j2 => by omega⟩
 ·split
  ·rename_i hc
   simp only [Bool.and_eq_true, decide_eq_true_eq, beq_iff_eq] at hc
   split
   ·refine ⟨by show 1 ≤ 2; omega, by show pos + 2 ≤ _; omega, fun j j1 j2 => ?_⟩
    obtain rfl : j = 1 := by simp at j2; omega
    rw [h1]; omega
   ·exact ⟨Nat.le_refl _, by show pos + 1 ≤ _; omega, fun j j1 j2 => by simp at j2; omega⟩
  ·split
   ·rename_i hc
    simp only [Bool.and_eq_true, decide_eq_true_eq, beq_iff_eq] at hc
    split
    ·refine ⟨by show 1 ≤ 3; omega, by show pos + 3 ≤ _; omega, fun j j1 j2 => ?_⟩
     have : j = 1 ∨ j = 2 := by simp at j2; omega
     rcases this with rfl | rfl
     ·rw [h1]; omega
     ·rw [h2]; omega
    ·exact ⟨Nat.le_refl _, by show pos + 1 ≤ _; omega, fun j j1 j2 => by simp at j2; omega⟩
   ·split
    ·rename_i hc
     simp only [Bool.and_eq_true, decide_eq_true_eq, beq_iff_eq] at hc
     split
     ·refine ⟨by show 1 ≤ 4; omega, by show pos + 4 ≤ _; omega, fun j j1 j2 => ?_⟩
      have : j = 1 ∨ j = 2 ∨ j = 3 := by simp at j2; omega
      rcases this with rfl | rfl | rfl
      ·rw [h1]; omega
      ·rw [h2]; omega
      ·rw [h3]; omega
     ·exact ⟨Nat.le_refl _, by show pos + 1 ≤ _; omega, fun j j1 j2 => by simp at j2; omega⟩
    ·exact ⟨Nat.le_refl _, by show pos + 1 ≤ _; omega, fun j j1 j2 => by simp at j2; omega⟩
theorem dec_blank (s : ByteArray) (pos : Nat) (h : pos < s.size) : isBl (Utf8.decode s pos).1 = true ↔ (s.get! pos).toNat = 32 := by
 have hlt := (s.get! pos).toNat_lt
 unfold Utf8.decode
 simp only [Nat.add_zero]
 obtain ⟨g0, h0⟩ : ∃ x, (s.get! pos).toNat = x := ⟨_, rfl⟩
 obtain ⟨g1, h1⟩ : ∃ x, (s.get! (pos + 1)).toNat = x := ⟨_, rfl⟩
 obtain ⟨g2, h2⟩ : ∃ x, (s.get! (pos + 2)).toNat = x := ⟨_, rfl⟩
 obtain ⟨g3, h3⟩ : ∃ x, (s.get! (pos + 3)).toNat = x := ⟨_, rfl⟩
 simp only [h0, h1, h2, h3]
 rw [h0] at hlt
 split
 ·simp [isBl]
 ·have hne : ¬ g0 = 32 := by omega
  have fin : ∀ c : Nat, 128 ≤ c → (isBl c = true ↔ g0 = 32) := fun c hc => by
   constructor
   ·intro h; simp [isBl] at h; omega
   ·intro h; exact absurd h hne
  have fe := fin Utf8.runeError (by decide)
  split
  ·split
   ·rename_i hh; exact fin _ hh
   ·exact fe
  ·split
   ·split
    ·rename_i h2; simp only [Bool.and_eq_true, decide_eq_true_eq] at h2; exact fin _ (by omega)
    ·exact fe
   ·split
    ·split
     ·rename_i h2; simp only [Bool.and_eq_true, decide_eq_true_eq] at h2; exact fin _ (by omega)
     ·exact fe
    ·exact fe
theorem get_B (T : Txt) (i : Nat) (h : i < T.length) : (B T).get! i = T[i] := by
 show (T.toArray)[i]! = _
 rw [getElem!_pos T.toArray i (by simpa using h)]
 simp
theorem spans (T : Txt) (f : Nat) : ∀ (r w a : Txt) (acc : List (Nat × Nat)), T = a ++ (w ++ r) → r.length ≤ f →
  (closeSpans (B T) (spansFromP isBl (B T) f (a.length + w.length) (if w = [] then none else some a.length) acc)).map (fun x => (B T).extract x.1 x.2) = acc.map (fun x => (B T).extract x.1 x.2) ++ (fieldsGo w r).map B := by
 have fin : ∀ (w a : Txt) (acc : List (Nat × Nat)), T = a ++ w → (closeSpans (B T) (acc, if w = [] then none else some a.length)).map (fun x => (B T).extract x.1 x.2) = acc.map (fun x => (B T).extract x.1 x.2) ++ (flushF w).map B := by
  intro w a acc hT
  by_cases hw : w = []
  ·simp [hw, closeSpans, flushF]
  ·rw [if_neg hw, flushF, if_neg hw]
   have e : (B T).extract a.length (B T).size = B w := by
    rw [extract_B, size_B, List.take_length, hT, List.drop_left]
   simp [closeSpans, e]
 induction f with
 | zero =>
  intro r w a acc hT hr
  obtain rfl : r = [] := List.length_eq_zero_iff.1 (by omega)
  rw [spansFromP, fieldsGo]
  exact fin w a acc (by simpa using hT)
 | succ f ih =>
  intro r w a acc hT hr
  cases r with
  | nil =>
   rw [spansFromP_end _ _ _ _ _ _ (by rw [size_B, hT]; simp), fieldsGo]
   exact fin w a acc (by simpa using hT)
  | cons b r =>
   have hp : a.length + w.length < (B T).size := by rw [size_B, hT]; simp
   have hpl : a.length + w.length < T.length := by rw [← size_B]; exact hp
   have hb : (B T).get! (a.length + w.length) = b := by
    rw [get_B T _ hpl]
    simp [hT]
   have hbl := dec_blank (B T) _ hp
   rw [hb] at hbl
   obtain ⟨z1, z2, z3⟩ := dec_size (B T) _ hp
   by_cases h32 : b = 32
   ·subst h32
    have hbl' : isBl (Utf8.decode (B T) (a.length + w.length)).1 = true := hbl.2 (by decide)
    have hsz : (Utf8.decode (B T) (a.length + w.length)).2 = 1 := by
     have : ((B T).get! (a.length + w.length)).toNat < 128 := by rw [hb]; decide
     unfold Utf8.decode
     simp only [Nat.add_zero]
     rw [if_pos this]
    rw [fieldsGo, if_pos rfl]
    have hT' : T = (a ++ w ++ [32]) ++ ([] ++ r) := by rw [hT]; simp
    have hl : (a ++ w ++ [32]).length + ([] : Txt).length = a.length + w.length + 1 := by simp; omega
    by_cases hw : w = []
    ·have := ih r [] (a ++ w ++ [32]) acc hT' (by simpa using hr)
     rw [hl, if_pos rfl] at this
     rw [if_pos hw, spansFromP, if_pos hp, hbl', if_pos rfl, hsz]
     rw [this]
     simp [hw, flushF]
    ·have := ih r [] (a ++ w ++ [32]) (acc ++ [(a.length, a.length + w.length)]) hT' (by simpa using hr)
     rw [hl, if_pos rfl] at this
     rw [if_neg hw, spansFromP, if_pos hp, hbl', if_pos rfl, hsz]
     rw [this]
     have e : (B T).extract a.length (a.length + w.length) = B w := by
      rw [extract_B, hT, ← List.append_assoc, List.take_left' (by simp), List.drop_left]
     simp [flushF, hw, e]
   ·have hbl' : isBl (Utf8.decode (B T) (a.length + w.length)).1 = false := by
     cases hq : isBl (Utf8.decode (B T) (a.length + w.length)).1 with
     | false => rfl
     | true => exact absurd (UInt8.toNat_inj.1 (show b.toNat = (32 : UInt8).toNat from hbl.1 hq)) h32
    obtain ⟨k, hk⟩ : ∃ k, (Utf8.decode (B T) (a.length + w.length)).2 = k := ⟨_, rfl⟩
    rw [hk] at z1 z2 z3
    have hTl : T.length = a.length + w.length + (r.length + 1) := by rw [hT]; simp; omega
    rw [size_B] at z2
    obtain ⟨u, v, huv, hul⟩ : ∃ u v, b :: r = u ++ v ∧ u.length = k := ⟨(b :: r).take k, (b :: r).drop k, (List.take_append_drop _ _).symm, by rw [List.length_take, List.length_cons]; omega⟩
    have hu32 : (32 : UInt8) ∉ u := by
     intro hm
     obtain ⟨j, hj, he⟩ := List.getElem_of_mem hm
     rcases Nat.eq_zero_or_pos j with h0 | h0
     ·subst h0
      have e1 := congrArg (fun z => z[0]?) huv
      simp [List.getElem?_append, hj, he] at e1
      exact h32 e1
     ·have := z3 j h0 (by omega)
      rw [get_B T _ (by omega)] at this
      have e1 : T[a.length + w.length + j]'(by omega) = 32 := by
       have : T = (a ++ w) ++ (u ++ v) := by rw [hT, huv]; simp
       simp only [this]
       rw [List.getElem_append_right (by simp)]
       simp only [List.length_append]
       rw [List.getElem_append_left (by omega)]
       have : a.length + w.length + j - (a.length + w.length) = j := by omega
       simp only [this]
       exact he
      rw [e1] at this
      exact absurd this (by decide)
    have hune : u ≠ [] := by intro e; rw [e] at hul; simp at hul; omega
    have hT' : T = a ++ ((w ++ u) ++ v) := by rw [hT, huv]; simp
    have hvl : v.length ≤ f := by
     have := congrArg List.length huv
     simp only [List.length_cons, List.length_append] at this hr
     omega
    have := ih v (w ++ u) a acc hT' hvl
    rw [if_neg (by simp [hune]), List.length_append, hul, ← Nat.add_assoc] at this
    rw [huv, fieldsGo_none u hu32]
    by_cases hw : w = []
    ·rw [if_pos hw, spansFromP, if_pos hp, hbl', if_neg Bool.false_ne_true, hk]
     rw [← this]
     simp [hw]
    ·rw [if_neg hw, spansFromP, if_pos hp, hbl', if_neg Bool.false_ne_true, hk]
     exact this
theorem fields_B (l : Txt) : goFieldsP isBl (B l) = (fieldsT l).map B := by
 have := spans l l.length l [] [] [] (by simp) (Nat.le_refl _)
 simp only [List.length_nil, Nat.add_zero, if_true, List.map_nil, List.nil_append] at this
 unfold goFieldsP spansOfP
 rw [size_B]
 exact this
end Go.Proofs.YtnegfigaiomehaaGreatDoor.Fld
end
section
namespace Go.Proofs.YtnegfigaiomehaaGreatDoor.P
open Go.RowKit Go.Lib Go.Proofs.YtnegfigaiomehaaGreatDoorW.PrintWords Go.Proofs.YtnegfigaiomehaaGreatDoor.U
abbrev signs : ByteArray := ⟨#[46, 95, 45, 43, 47]⟩
theorem indexByte_no (l : List UInt8) (c : UInt8) (h : c ∉ l) : Lib.indexByte l c = -1 := by
 induction l with
 | nil => rfl
 | cons b l ih =>
  have h1 : b ≠ c := fun e => h (by simp [e])
  have h2 := ih (fun e => h (by simp [e]))
  unfold Lib.indexByte
  simp [h1, h2]
theorem ib_none (s : ByteArray) (b : Nat) (hs : ∀ x ∈ s.data.toList, x.toNat < 128) (h1 : 128 ≤ b) (h2 : b < 256) (w : World) :
  Calls Tryz.prog 194 #[.string s, .int .u8 (b : Int)] w fun e w' => e = .returned (.int .i64 (-1)) ∧ w' = w := by
 have h := Tryz.strings_IndexByte s (b : Int) w
 rw [indexByte_no] at h
 ·exact h
 ·intro hm
  have := hs _ hm
  simp at this
  rw [Nat.mod_eq_of_lt h2] at this
  omega
theorem signs_tail (a b : Nat) : ∀ x ∈ (signs.extract a b).data.toList, x.toNat < 128 := by
 intro x hx
 have := mem_extract hx
 simp at this
 rcases this with rfl | rfl | rfl | rfl | rfl <;> decide
theorem last_byte_of (rs : ByteArray) (k : Nat) (hk : rs.size = k + 1) (q : ∀ h : rs.size - 1 < rs.size, 128 ≤ (rs[rs.size - 1]'h).toNat) :
  ∃ b : Nat, 128 ≤ b ∧ b < 256 ∧ ∀ h : k < rs.size, ((rs[k]'h).toNat : Int) = (b : Int) := by
 have q4 := q (by omega)
 simp only [hk, Nat.add_sub_cancel] at q4
 exact ⟨(rs[k]'(by omega)).toNat, q4, UInt8.toNat_lt _, fun _ => rfl⟩
set_option maxRecDepth 1000000 in
set_option maxHeartbeats 4000000 in
theorem indexRune_valid (r : Nat) (h0 : 128 ≤ r) (h1 : r ≤ 1114111) (hE : r ≠ 65533) (hv : Lib.validRune (r : Int) = true) (w : World) :
  Calls Tryz.prog 188 #[.string signs, .int .i32 (r : Int)] w fun e w' => e = .returned (.int .i64 (-1)) ∧ Below w.heap.size w w' := by
 have hE' : ((r : Int) == 65533) = false := by rw [beq_eq_false_iff_ne]; omega
 have hlt : decide ((r : Int) < 128) = false := by simp; omega
 obtain ⟨q1, q2, q3⟩ := encode_facts (r : Int) (by rw [validRune_eq]; exact hv) (by omega)
 generalize hrs : Utf8.encode (r : Int) = rs at q1 q2 q3
 have hz : rs.size = 2 ∨ rs.size = 3 ∨ rs.size = 4 := by omega
 clear q1 q2
 rcases hz with hz | hz | hz
 ·obtain ⟨b, hb1, hb3, hb2⟩ := last_byte_of rs 1 hz q3
  have hne : ((95 : Int) != (b : Int)) = true := by rw [bne_iff_ne]; omega
  clear q3
  have s1 : IntKind.i64.wrap (1 + 1) = 2 := by rfl
  have hsg : ∀ h : 1 < signs.size, ((signs[1]'h).toNat : Int) = 95 := fun _ => rfl
  have HS := Lib.hid (signs_tail 2 5)
  go_enter Tryz.func188, Tryz.ntmps188
  go_wp2_with (first | (go_at_call 195; refine (Tryz.utf8_ValidRune _ _).mono ?_; rintro e w' ⟨rfl, rfl⟩))
  go_step3
  go_wp2_with fail
  refine wp_loop_rounds 1 ?_
  rw [rounds_succ]
  go_wp2_with fail
  go_step3
  go_wp2_with fail
  go_quiet (fail)
  clear hrs hv hE hE' hlt
  go_wp2_with fail
  go_region_with (go_at_call 194; refine (ib_none _ b HS.out hb1 hb3 _).mono ?_; rintro e w2 ⟨rfl, rfl⟩)
  all_goals go_wp2_with fail
  all_goals (rw [Exit.noGoto_ret]; go_simp; go_ret; exact ⟨rfl, below_drewNg _ _⟩)
 ·obtain ⟨b, hb1, hb3, hb2⟩ := last_byte_of rs 2 hz q3
  have hne : ((45 : Int) != (b : Int)) = true := by rw [bne_iff_ne]; omega
  clear q3
  have s1 : IntKind.i64.wrap (2 + 1) = 3 := by rfl
  have hsg : ∀ h : 2 < signs.size, ((signs[2]'h).toNat : Int) = 45 := fun _ => rfl
  have HS := Lib.hid (signs_tail 3 5)
  go_enter Tryz.func188, Tryz.ntmps188
  go_wp2_with (first | (go_at_call 195; refine (Tryz.utf8_ValidRune _ _).mono ?_; rintro e w' ⟨rfl, rfl⟩))
  go_step3
  go_wp2_with fail
  refine wp_loop_rounds 1 ?_
  rw [rounds_succ]
  go_wp2_with fail
  go_step3
  go_wp2_with fail
  go_quiet (fail)
  clear hrs hv hE hE' hlt
  go_wp2_with fail
  go_region_with (go_at_call 194; refine (ib_none _ b HS.out hb1 hb3 _).mono ?_; rintro e w2 ⟨rfl, rfl⟩)
  all_goals go_wp2_with fail
  all_goals (rw [Exit.noGoto_ret]; go_simp; go_ret; exact ⟨rfl, below_drewNg _ _⟩)
 ·obtain ⟨b, hb1, hb3, hb2⟩ := last_byte_of rs 3 hz q3
  have hne : ((43 : Int) != (b : Int)) = true := by rw [bne_iff_ne]; omega
  clear q3
  have s1 : IntKind.i64.wrap (3 + 1) = 4 := by rfl
  have hsg : ∀ h : 3 < signs.size, ((signs[3]'h).toNat : Int) = 43 := fun _ => rfl
  have HS := Lib.hid (signs_tail 4 5)
  go_enter Tryz.func188, Tryz.ntmps188
  go_wp2_with (first | (go_at_call 195; refine (Tryz.utf8_ValidRune _ _).mono ?_; rintro e w' ⟨rfl, rfl⟩))
  go_step3
  go_wp2_with fail
  refine wp_loop_rounds 1 ?_
  rw [rounds_succ]
  go_wp2_with fail
  go_step3
  go_wp2_with fail
  go_quiet (fail)
  clear hrs hv hE hE' hlt
  go_wp2_with fail
  go_region_with (go_at_call 194; refine (ib_none _ b HS.out hb1 hb3 _).mono ?_; rintro e w2 ⟨rfl, rfl⟩)
  all_goals go_wp2_with fail
  all_goals (rw [Exit.noGoto_ret]; go_simp; go_ret; exact ⟨rfl, below_drewNg _ _⟩)
set_option maxRecDepth 1000000 in
set_option maxHeartbeats 4000000 in
theorem indexRune_invalid (r : Nat) (h0 : 128 ≤ r) (h1 : r ≤ 1114111) (hE : r ≠ 65533) (hv : Lib.validRune (r : Int) = false) (w : World) :
  Calls Tryz.prog 188 #[.string signs, .int .i32 (r : Int)] w fun e w' => e = .returned (.int .i64 (-1)) ∧ Below w.heap.size w w' := by
 have hE' : ((r : Int) == 65533) = false := by rw [beq_eq_false_iff_ne]; omega
 have hlt : decide ((r : Int) < 128) = false := by simp; omega
 go_enter Tryz.func188, Tryz.ntmps188
 go_wp2_with (first | (go_at_call 195; refine (Tryz.utf8_ValidRune _ _).mono ?_; rintro e w' ⟨rfl, rfl⟩))
 go_ret
 exact ⟨rfl, Below.refl _ _⟩
theorem decode_signs (pos : Nat) (h : pos < 5) : (Utf8.decode signs pos).1 ≠ 65533 ∧ (Utf8.decode signs pos).2 = 1 := by
 have : pos = 0 ∨ pos = 1 ∨ pos = 2 ∨ pos = 3 ∨ pos = 4 := by omega
 rcases this with rfl | rfl | rfl | rfl | rfl <;> exact ⟨by decide +kernel, by decide +kernel⟩
set_option maxRecDepth 1000000 in
set_option maxHeartbeats 4000000 in
theorem indexRune_error (w : World) :
  Calls Tryz.prog 188 #[.string signs, .int .i32 65533] w fun e w' => e = .returned (.int .i64 (-1)) ∧ Below w.heap.size w w' := by
 go_enter Tryz.func188, Tryz.ntmps188
 go_wp2
 go_loopg [] 5 (fun gf wx => ∃ pos : Nat, wx.heap[w.heap.size]? = some (.stringIter signs pos) ∧ Below w.heap.size w wx ∧ 5 ≤ pos + gf)
 case atStart => exact ⟨0, World.iter_heap w signs 0, (Below.refl _ w).alloc (Nat.le_refl _) _, by omega⟩
 case round =>
  obtain ⟨pos, hit, hbw, hfu⟩ := hrel
  by_cases hps : pos < signs.size
  ·have hp5 : pos < 5 := hps
   obtain ⟨g', rfl⟩ : ∃ g', gk = g' + 1 := ⟨gk - 1, by omega⟩
   have hnx : ∀ ty, (Instr.next (.pointer (some ⟨w.heap.size, 0, none⟩)) true ty).run Tryz.prog wr = _ := fun ty => Lib.run_next_any_at wr w.heap.size signs pos ty hit hps
   obtain ⟨hd1, hd2⟩ := decode_signs pos hp5
   obtain ⟨R, hR⟩ : ∃ R, (Utf8.decode signs pos).1 = R := ⟨_, rfl⟩
   rw [hR] at hd1 hnx
   rw [hd2] at hnx
   have hit2 := Lib.iterAt_heap wr w.heap.size signs pos (pos + 1) hit
   have hbw2 := Lib.below_iterAt hbw (k := w.heap.size) (Nat.le_refl _) signs (pos + 1)
   obtain ⟨W, hWd⟩ : ∃ W, wr.iterAt w.heap.size signs (pos + 1) = W := ⟨_, rfl⟩
   rw [hWd] at hnx hit2 hbw2
   have hR3 : ((R : Int) == 65533) = false := by rw [beq_eq_false_iff_ne]; omega
   clear hR hd2 hWd hit hd1
   go_wp2
   go_roundg g'
   case measure => omega
   case rel => exact ⟨pos + 1, hit2, hbw2, by omega⟩
  ·have hnx : ∀ ty, (Instr.next (.pointer (some ⟨w.heap.size, 0, none⟩)) true ty).run Tryz.prog wr = _ := fun ty => Lib.run_next_end_at wr w.heap.size signs pos ty hit (by omega)
   go_wp2
   go_ret
   exact ⟨rfl, hbw⟩
end Go.Proofs.YtnegfigaiomehaaGreatDoor.P
end
section
namespace Go.Proofs.YtnegfigaiomehaaGreatDoor.P
open Go.RowKit Go.Lib Go.Proofs.YtnegfigaiomehaaGreatDoorW.PrintWords Go.Proofs.YtnegfigaiomehaaGreatDoor.U
def isSignR (c : Nat) : Bool := c == 46 || c == 95 || c == 45 || c == 43 || c == 47
def plainR (c : Nat) : Bool := (decide (97 ≤ c) && decide (c ≤ 122)) || (decide (65 ≤ c) && decide (c ≤ 90)) || (decide (48 ≤ c) && decide (c ≤ 57)) || isSignR c
theorem sign_ascii : ∀ c : Fin 128, decide (0 ≤ Lib.indexByte signs.data.toList ((c.val : Int).toNat.toUInt8)) = isSignR c.val := by decide +kernel
theorem sign_beyond (c : Nat) (h : 128 ≤ c) : isSignR c = false := by
 have h1 : ¬ c = 46 := by omega
 have h2 : ¬ c = 95 := by omega
 have h3 : ¬ c = 45 := by omega
 have h4 : ¬ c = 43 := by omega
 have h5 : ¬ c = 47 := by omega
 simp [isSignR, h1, h2, h3, h4, h5]
set_option maxRecDepth 100000 in
set_option maxHeartbeats 2000000 in
theorem containsRune_any (c : Nat) (h1 : c ≤ 1114111) (w : World) :
  Calls Tryz.prog 173 #[.string signs, .int .i32 (c : Int)] w fun e w' => e = .returned (.bool (isSignR c)) ∧ Below w.heap.size w w' := by
 by_cases hc : c < 128
 ·have h := Tryz.strings_ContainsRune_ascii signs (c : Int) w (by omega) (by omega)
  have e := sign_ascii ⟨c, hc⟩
  simp only at e
  rw [e] at h
  exact h.mono fun e w' ⟨he, hw⟩ => ⟨he, hw ▸ Below.refl _ _⟩
 ·have hI : Calls Tryz.prog 188 #[.string signs, .int .i32 (c : Int)] w fun e w' => e = .returned (.int .i64 (-1)) ∧ Below w.heap.size w w' := by
   by_cases hE : c = 65533
   ·subst hE; exact indexRune_error w
   ·by_cases hv : Lib.validRune (c : Int) = true
    ·exact indexRune_valid c (by omega) h1 hE hv w
    ·exact indexRune_invalid c (by omega) h1 hE (by simpa using hv) w
  have HI := Lib.hid hI
  clear hI
  rw [sign_beyond c (by omega)]
  go_enter Tryz.func173, Tryz.ntmps173
  go_wp2_with fail
  refine HI.out.mono ?_
  rintro e w' ⟨rfl, hb⟩
  go_wp2_with fail
  go_ret
  exact ⟨rfl, hb⟩
theorem not_sign_letter (c : Nat) (h : (97 ≤ c ∧ c ≤ 122) ∨ (65 ≤ c ∧ c ≤ 90) ∨ (48 ≤ c ∧ c ≤ 57)) : plainR c = true := by
 unfold plainR
 rcases h with ⟨a, b⟩ | ⟨a, b⟩ | ⟨a, b⟩ <;> simp [a, b]
theorem plain_other (c : Nat) (h : c < 48 ∨ (57 < c ∧ c < 65) ∨ (90 < c ∧ c < 97) ∨ 122 < c) : plainR c = isSignR c := by
 unfold plainR
 have h1 : ¬ (97 ≤ c ∧ c ≤ 122) := by omega
 have h2 : ¬ (65 ≤ c ∧ c ≤ 90) := by omega
 have h3 : ¬ (48 ≤ c ∧ c ≤ 57) := by omega
 have e1 : (decide (97 ≤ c) && decide (c ≤ 122)) = false := by rw [← Bool.decide_and]; simp only [decide_eq_false_iff_not]; exact h1
 have e2 : (decide (65 ≤ c) && decide (c ≤ 90)) = false := by rw [← Bool.decide_and]; simp only [decide_eq_false_iff_not]; exact h2
 have e3 : (decide (48 ≤ c) && decide (c ≤ 57)) = false := by rw [← Bool.decide_and]; simp only [decide_eq_false_iff_not]; exact h3
 simp [e1, e2, e3]
set_option maxRecDepth 100000 in
set_option maxHeartbeats 4000000 in
theorem plain_any (c : Nat) (h1 : c ≤ 1114111) (w : World) :
  Calls Tryz.prog 145 #[.int .i32 (c : Int)] w fun e w' => e = .returned (.bool (plainR c)) ∧ Below w.heap.size w w' := by
 rcases (show ((97 ≤ c ∧ c ≤ 122) ∨ (65 ≤ c ∧ c ≤ 90) ∨ (48 ≤ c ∧ c ≤ 57)) ∨ (c < 48 ∨ (57 < c ∧ c < 65) ∨ (90 < c ∧ c < 97) ∨ 122 < c) from by omega) with h | h
 ·rw [not_sign_letter c h]
  rcases h with ⟨a, b⟩ | ⟨a, b⟩ | ⟨a, b⟩
  all_goals
   go_enter Tryz.func145, Tryz.ntmps145
   go_wp2_with fail
   go_ret
   exact ⟨rfl, Below.refl _ _⟩
 ·have H := Lib.hid (plain_other c h)
  rcases h with a | ⟨a, b⟩ | ⟨a, b⟩ | a
  ·go_enter Tryz.func145, Tryz.ntmps145
   go_wp2_with fail
   refine (containsRune_any c h1 _).mono ?_
   rintro e w' ⟨rfl, hb⟩
   go_wp2_with fail
   go_ret
   exact ⟨by rw [H.out]; rfl, hb⟩
  ·have d57 : decide ((c : Int) ≤ 57) = false := by simp; omega
   go_enter Tryz.func145, Tryz.ntmps145
   go_wp2_with fail
   refine (containsRune_any c h1 _).mono ?_
   rintro e w' ⟨rfl, hb⟩
   go_wp2_with fail
   go_ret
   exact ⟨by rw [H.out]; rfl, hb⟩
  ·have d57 : decide ((c : Int) ≤ 57) = false := by simp; omega
   have d90 : decide ((c : Int) ≤ 90) = false := by simp; omega
   go_enter Tryz.func145, Tryz.ntmps145
   go_wp2_with fail
   refine (containsRune_any c h1 _).mono ?_
   rintro e w' ⟨rfl, hb⟩
   go_wp2_with fail
   go_ret
   exact ⟨by rw [H.out]; rfl, hb⟩
  ·have d57 : decide ((c : Int) ≤ 57) = false := by simp; omega
   have d90 : decide ((c : Int) ≤ 90) = false := by simp; omega
   have d122 : decide ((c : Int) ≤ 122) = false := by simp; omega
   go_enter Tryz.func145, Tryz.ntmps145
   go_wp2_with fail
   refine (containsRune_any c h1 _).mono ?_
   rintro e w' ⟨rfl, hb⟩
   go_wp2_with fail
   go_ret
   exact ⟨by rw [H.out]; rfl, hb⟩
theorem notplain_grows (w : World) : PredGrows Tryz.prog 144 #[] (fun c => !plainR c) w := by
 intro W x hx hb
 go_enter Tryz.func144, Tryz.ntmps144
 go_wp2_with fail
 refine (plain_any x hx _).mono ?_
 rintro e w' ⟨rfl, hb2⟩
 go_wp2_with fail
 go_ret
 exact ⟨rfl, hb2⟩
def plainB (b : UInt8) : Bool := plainR b.toNat
theorem plainR_beyond (c : Nat) (h : 128 ≤ c) : plainR c = false := by rw [plain_other c (by omega)]; exact sign_beyond c h
theorem decode_at (s : ByteArray) (pos : Nat) (h : pos < s.size) : ((s[pos]'h).toNat < 128 → Utf8.decode s pos = ((s[pos]'h).toNat, 1)) ∧ (128 ≤ (s[pos]'h).toNat → 128 ≤ (Utf8.decode s pos).1) := by
 have hg : (s.get! pos).toNat = (s[pos]'h).toNat := by
  have : s.get! pos = s[pos]'h := by
   show s.data[pos]! = s.data[pos]'h
   rw [getElem!_pos s.data pos h]
  rw [this]
 have hlt := (s[pos]'h).toNat_lt
 constructor
 ·intro h1
  unfold Utf8.decode
  simp only [Nat.add_zero, hg]
  rw [if_pos h1]
 ·intro h1
  unfold Utf8.decode
  simp only [Nat.add_zero, hg]
  rw [if_neg (by omega)]
  split
  ·split
   ·assumption
   ·show 128 ≤ Utf8.runeError; decide
  ·split
   ·split
    ·rename_i h2; simp only [Bool.and_eq_true, decide_eq_true_eq] at h2; omega
    ·show 128 ≤ Utf8.runeError; decide
   ·split
    ·split
     ·rename_i h2; simp only [Bool.and_eq_true, decide_eq_true_eq] at h2; omega
     ·show 128 ≤ Utf8.runeError; decide
    ·show 128 ≤ Utf8.runeError; decide
theorem plainB_ascii (b : UInt8) (h : plainB b = true) : b.toNat < 128 := by
 refine Nat.lt_of_not_le fun h2 => ?_
 rw [plainB, plainR_beyond _ h2] at h
 cases h
theorem idx_all (s : ByteArray) (f : Nat) : ∀ pos, (∀ j (h : j < s.size), pos ≤ j → plainB (s[j]'h) = true) → Lib.idxFuncFrom (fun c => !plainR c) true s f pos = -1 := by
 induction f with
 | zero => intro pos _; rfl
 | succ f ih =>
  intro pos h
  unfold Lib.idxFuncFrom
  by_cases hp : pos < s.size
  ·have hb := h pos hp (Nat.le_refl _)
   have hd := (decode_at s pos hp).1 (plainB_ascii _ hb)
   rw [if_pos hp, hd, if_neg (by simp; exact hb)]
   exact ih (pos + 1) fun j hj hle => h j hj (by omega)
  ·rw [if_neg hp]
theorem idx_some (s : ByteArray) (f : Nat) : ∀ pos, s.size ≤ pos + f → (∃ j, ∃ h : j < s.size, pos ≤ j ∧ plainB (s[j]'h) = false) → 0 ≤ Lib.idxFuncFrom (fun c => !plainR c) true s f pos := by
 induction f with
 | zero =>
  intro pos hf ⟨j, hj, h1, _⟩
  omega
 | succ f ih =>
  intro pos hf ⟨j, hj, h1, h2⟩
  have hp : pos < s.size := by omega
  unfold Lib.idxFuncFrom
  rw [if_pos hp]
  by_cases hr : plainR (Utf8.decode s pos).1 = true
  ·have hlt : (s[pos]'hp).toNat < 128 := by
    refine Nat.lt_of_not_le fun h3 => ?_
    rw [plainR_beyond _ ((decode_at s pos hp).2 h3)] at hr
    cases hr
   have hd := (decode_at s pos hp).1 hlt
   rw [hd] at hr ⊢
   rw [if_neg (by simp; exact hr)]
   refine ih (pos + 1) (by omega) ⟨j, hj, ?_, h2⟩
   refine Nat.lt_of_le_of_ne h1 fun e => ?_
   subst e
   rw [plainB] at h2
   simp only at hr
   rw [hr] at h2
   cases h2
  ·rw [if_pos (by simpa using hr)]
   omega
theorem idx_plain (l : List UInt8) : (l.all plainB = true → Lib.idxFunc (fun c => !plainR c) true (B l) = -1) ∧ (l.all plainB = false → 0 ≤ Lib.idxFunc (fun c => !plainR c) true (B l)) := by
 unfold Lib.idxFunc
 constructor
 ·intro h
  refine idx_all (B l) _ 0 fun j hj _ => ?_
  have : (B l)[j]'hj ∈ l := by
   show l.toArray[j]'hj ∈ l
   simp
  exact List.all_eq_true.1 h _ this
 ·intro h
  refine idx_some (B l) _ 0 (by omega) ?_
  obtain ⟨x, hx, hx2⟩ := List.all_eq_false.1 h
  obtain ⟨j, hj, rfl⟩ := List.getElem_of_mem hx
  exact ⟨j, by rw [size_B]; exact hj, Nat.zero_le _, (show plainB l[j] = false by simpa using hx2)⟩
end Go.Proofs.YtnegfigaiomehaaGreatDoor.P
end
section
namespace Go.Proofs.YtnegfigaiomehaaGreatDoor.P
open Go.RowKit Go.Shelf Go.Proofs.YtnegfigaiomehaaGreatDoorW.PrintWords Go.Proofs.YtnegfigaiomehaaGreatDoor.U Go.Proofs.YtnegfigaiomehaaGreatDoor.Rng
def foldP : List (List UInt8) → List (List UInt8) → Option (List (List UInt8))
 | [], ps => some ps
 | p :: r, ps => if p = [] ∨ p = [46] then foldP r ps else if p = [46, 46] then (if ps = [] then none else foldP r ps.dropLast) else foldP r (ps ++ [p])
def joinP (ps : List (List UInt8)) : List UInt8 := [47].intercalate ps
def cleanL (l : List UInt8) : List UInt8 × Int :=
 if 1000 < l.length then ([], 3) else if l.head? = some 47 ∨ l.all plainB = false then ([], 5) else
 match foldP (splitK 47 0 l) [] with
 | none => ([], 5)
 | some ps => if joinP ps = [] then ([], 5) else if 100 < (joinP ps).length then ([], 3) else (joinP ps, 0)
set_option maxRecDepth 100000 in
set_option maxHeartbeats 1000000 in
theorem SplitSeq_any (s sep : ByteArray) (w : World) :
  Calls Tryz.prog 146 #[.string s, .string sep] w fun e w' => e = .returned (.func (.func 185) #[] #[.pointer (some ⟨w.heap.size + 1, 0, none⟩), .pointer (some ⟨w.heap.size, 0, none⟩), .pointer (some ⟨w.heap.size + 2, 0, none⟩)]) ∧
   ((w.alloc (.cells #[.string s] 9)).alloc (.cells #[.string sep] 9)).alloc (.cells #[.int .i64 0] 3) = w' := by
 go_enter Tryz.func146, Tryz.ntmps146
 go_wp2
 go_ret
 exact ⟨rfl, rfl⟩
theorem hasPrefix_slash (l : List UInt8) : Lib.hasPrefix l [47] = decide (l.head? = some 47) := by
 cases l with
 | nil => rfl
 | cons b l =>
  rw [Bool.eq_iff_iff]
  simp [Lib.hasPrefix, List.isPrefixOf]
  exact eq_comm
set_option maxRecDepth 100000 in
set_option maxHeartbeats 2000000 in
theorem clean_long (l : List UInt8) (h : 1000 < l.length) (w : World) :
  Calls Tryz.prog 118 #[.string (B l)] w fun e w' => e = .returned (.tuple #[.string (B []), .int .i64 3]) ∧ Below w.heap.size w w' := by
 have hs : (B l).size = l.length := size_B l
 have h' : (1000 : Int) < (l.length : Int) := by omega
 go_enter Tryz.func118, Tryz.ntmps118
 go_wp2
 go_step3
 go_wp2
 rw [Exit.noGoto_ret]
 refine bodyPost_ret (v := .tuple #[.string (B []), .int .i64 3]) (by simp [results, Tryz.results118, go_sem]) rfl ⟨rfl, ?_⟩
 exact (((((Below.refl _ w).alloc (Nat.le_refl _) _).alloc (by simp) _)))
set_option maxRecDepth 100000 in
set_option maxHeartbeats 2000000 in
theorem clean_slash (l : List UInt8) (h : l.length ≤ 1000) (hb : l.head? = some 47) (w : World) :
  Calls Tryz.prog 118 #[.string (B l)] w fun e w' => e = .returned (.tuple #[.string (B []), .int .i64 5]) ∧ Below w.heap.size w w' := by
 have hs : (B l).size = l.length := size_B l
 have h' : (l.length : Int) ≤ 1000 := by omega
 have HP : Hid (∀ W, Calls Tryz.prog 139 #[.string (B l), .string ⟨#[47]⟩] W fun e w' => e = .returned (.bool true) ∧ W = w') := fun W => by
  have := Tryz.strings_HasPrefix (B l) ⟨#[47]⟩ W
  rw [data_B, hasPrefix_slash, hb] at this
  exact this.mono fun e w' ⟨he, hw⟩ => ⟨he, hw.symm⟩
 clear hb
 go_enter Tryz.func118, Tryz.ntmps118
 go_wp2
 go_step3
 go_wp2_with fail
 refine (HP.out _).mono ?_
 rintro e w' ⟨rfl, rfl⟩
 go_wp2_with fail
 rw [Exit.noGoto_ret]
 refine bodyPost_ret (v := .tuple #[.string (B []), .int .i64 5]) (by simp [results, Tryz.results118, go_sem]) rfl ⟨rfl, ?_⟩
 exact ((Below.refl _ w).alloc (Nat.le_refl _) _).alloc (by simp) _
theorem idx_calls (l : List UInt8) (n : Int) (h : Lib.idxFunc (fun c => !plainR c) true (B l) = n) (W : World) :
  Calls Tryz.prog 143 #[.string (B l), .func (.func 144) #[] #[]] W fun e w' => e = .returned (.int .i64 n) ∧ Below W.heap.size W w' := by
 have := Tryz.strings_IndexFunc_grows 144 #[] (enters_of Tryz.func144 (by kernel_rfl) rfl) (fun c => !plainR c) (B l) W (notplain_grows W)
 rw [h] at this
 exact this
set_option maxRecDepth 100000 in
set_option maxHeartbeats 2000000 in
theorem clean_bad (l : List UInt8) (h : l.length ≤ 1000) (hb : ¬ l.head? = some 47) (hp : l.all plainB = false) (w : World) :
  Calls Tryz.prog 118 #[.string (B l)] w fun e w' => e = .returned (.tuple #[.string (B []), .int .i64 5]) ∧ Below w.heap.size w w' := by
 have hs : (B l).size = l.length := size_B l
 have h' : (l.length : Int) ≤ 1000 := by omega
 have HP : Hid (∀ W, Calls Tryz.prog 139 #[.string (B l), .string ⟨#[47]⟩] W fun e w' => e = .returned (.bool false) ∧ W = w') := fun W => by
  have := Tryz.strings_HasPrefix (B l) ⟨#[47]⟩ W
  rw [data_B, hasPrefix_slash, decide_eq_false hb] at this
  exact this.mono fun e w' ⟨he, hw⟩ => ⟨he, hw.symm⟩
 obtain ⟨i, hi⟩ : ∃ i, Lib.idxFunc (fun c => !plainR c) true (B l) = i := ⟨_, rfl⟩
 have hi0 : 0 ≤ i := by rw [← hi]; exact (idx_plain l).2 hp
 have HI := Lib.hid (idx_calls l i hi)
 clear hb hp hi
 go_enter Tryz.func118, Tryz.ntmps118
 go_wp2
 go_step3
 go_wp2_with fail
 refine (HP.out _).mono ?_
 rintro e w' ⟨rfl, rfl⟩
 go_wp2_with fail
 refine (HI.out _).mono ?_
 rintro e w' ⟨rfl, hb⟩
 have b1 : w'.heap[w.heap.size]? = some (.cells #[.string (B [])] 9 (0, 0)) := (hb.block _ (by simp; omega)).trans ((Below.heap_alloc _ _ _ (by simp)).trans (heap_alloc_new w _))
 have b2 : w'.heap[w.heap.size + 1]? = some (.cells #[.int .i64 0] 41 (0, 0)) := (hb.block _ (by simp)).trans (by simpa using heap_alloc_new (w.alloc _) _)
 have c1 := cell_of_one b1
 have c2 := cell_of_one b2
 have f1 := free_of_one b1
 have f2 := free_of_one b2
 go_wp2_with fail
 rw [Exit.noGoto_ret]
 have b1' := one_setCell (u := .string (B [])) b1
 have b2' : (w'.setCell ⟨w.heap.size, 0, none⟩ (.string (B []))).heap[w.heap.size + 1]? = _ := (Below.heap_setCell w' ⟨w.heap.size, 0, none⟩ _ (w.heap.size + 1) (by show w.heap.size + 1 ≠ w.heap.size; omega)).trans b2
 have b2'' := one_setCell (u := .int .i64 5) b2'
 have b1'' := (Below.heap_setCell (w'.setCell ⟨w.heap.size, 0, none⟩ (.string (B []))) ⟨w.heap.size + 1, 0, none⟩ (.int .i64 5) w.heap.size (by show w.heap.size ≠ w.heap.size + 1; omega)).trans b1'
 have k1 := cell_of_one b1''
 have k2 := cell_of_one b2''
 refine bodyPost_ret (v := .tuple #[.string (B []), .int .i64 5]) (by simp [results, Tryz.results118, go_sem, k1, k2]) rfl ⟨rfl, ?_⟩
 exact (((((Below.refl _ w).alloc (Nat.le_refl _) _).alloc (by simp) _).trans (hb.mono (by simp; omega))).setCell (Nat.le_refl _) _).setCell (Nat.le_succ _) _
theorem SplitSeq_calls (l : List UInt8) (W : World) :
  Calls Tryz.prog 146 #[.string (B l), .string ⟨#[47]⟩] W fun e w' => e = .returned (.func (.func 185) #[] #[.pointer (some ⟨W.heap.size + 1, 0, none⟩), .pointer (some ⟨W.heap.size, 0, none⟩), .pointer (some ⟨W.heap.size + 2, 0, none⟩)]) ∧
   Below W.heap.size W w' ∧ W.heap.size + 2 < w'.heap.size ∧ w'.heap[W.heap.size]? = some (.cells #[.string (B l)] 9 (0, 0)) ∧ w'.heap[W.heap.size + 1]? = some (.cells #[.string (B [47])] 9 (0, 0)) ∧ w'.heap[W.heap.size + 2]? = some (.cells #[.int .i64 0] 3 (0, 0)) :=
 (SplitSeq_any (B l) ⟨#[47]⟩ W).mono fun e w' ⟨he, hw⟩ => by
  subst hw
  refine ⟨he, (((Below.refl _ W).alloc (Nat.le_refl _) _).alloc (by simp) _).alloc (by simp; omega) _, by simp, ?_, ?_, ?_⟩
  ·exact (Below.heap_alloc _ _ _ (by simp; omega)).trans ((Below.heap_alloc _ _ _ (by simp)).trans (heap_alloc_new W _))
  ·exact (Below.heap_alloc _ _ _ (by simp)).trans (by simpa using heap_alloc_new (W.alloc (.cells #[.string (B l)] 9)) (.cells #[.string (B [47])] 9))
  ·simpa using heap_alloc_new ((W.alloc (.cells #[.string (B l)] 9)).alloc (.cells #[.string (B [47])] 9)) (.cells #[.int .i64 0] 3)
theorem foldP_append (a b ps : List (List UInt8)) : foldP (a ++ b) ps = (foldP a ps).bind (foldP b) := by
 induction a generalizing ps with
 | nil => rfl
 | cons p a ih =>
  rw [List.cons_append, foldP, foldP]
  split
  ·exact ih ps
  ·split
   ·split
    ·rfl
    ·exact ih _
   ·exact ih _
theorem foldP_none {a b c : List (List UInt8)} (h : a <+: b) (ha : foldP a c = none) : foldP b c = none := by
 obtain ⟨t, rfl⟩ := h
 rw [foldP_append, ha]; rfl
theorem map_snoc_prefix {pl q : List (List UInt8)} {x : ByteArray} (h : (pl.map B ++ [x]) <+: q.map B) : ∃ p, x = B p ∧ (pl ++ [p]) <+: q := by
 obtain ⟨t, ht⟩ := h
 have hlen : pl.length < q.length := by have := congrArg List.length ht; simp at this; omega
 have h1 : pl = q.take pl.length := by
  have := congrArg (List.take pl.length) ht
  rw [List.append_assoc, List.take_left' (by simp), ← List.map_take] at this
  exact (List.map_inj_right (fun _ _ e => B_inj e)).1 this
 have h2 : x = B q[pl.length] := by
  have := congrArg (fun z => z[pl.length]?) ht
  simp [List.getElem?_append, List.getElem?_eq_getElem hlen] at this
  exact this
 refine ⟨q[pl.length], h2, ?_⟩
 have : pl ++ [q[pl.length]] = q.take (pl.length + 1) := by
  rw [List.take_succ_eq_append_getElem hlen, ← h1]
 rw [this]
 exact List.take_prefix _ _
theorem foldP_len (a : List (List UInt8)) : ∀ ps qs, foldP a ps = some qs → qs.length ≤ ps.length + a.length := by
 induction a with
 | nil => intro ps qs h; simp [foldP] at h; subst h; simp
 | cons p a ih =>
  intro ps qs h
  rw [foldP] at h
  split at h
  ·have := ih _ _ h; simp; omega
  ·split at h
   ·split at h
    ·cases h
    ·have := ih _ _ h; simp at this ⊢; omega
   ·have := ih _ _ h; simp at this ⊢; omega
theorem splitK_len (c : UInt8) (k : Nat) (l : List UInt8) : (splitK c k l).length ≤ l.length + 1 := by
 induction l with
 | nil => simp [splitK]
 | cons b l ih =>
  rw [splitK]; split
  ·simp; omega
  ·split
   ·simp
   ·rename_i p ps he
    rw [he] at ih
    simp at ih ⊢; omega
structure CInv (N pb bs : Nat) (e : Int) (ps : List (List UInt8)) (W : World) : Prop where
 r1 : W.heap[N]? = some (.cells #[.string (B [])] 9 (0, 0))
 r2 : W.heap[N + 1]? = some (.cells #[.int .i64 e] 41 (0, 0))
 le : bs ≤ W.heap.size
 parts : ∃ v, W.heap[pb]? = some (.cells #[v] 23 (0, 0)) ∧ W.ownsRow bs 9 1 v ps.length (ps.map fun x => Value.string (B x))
theorem heap_keep {W W' : World} {row : Option Nat} {k : Nat} {cs : Array Value} {t : TypeId} (hg : W.grownBy W' row) (hr : ∀ r, row = some r → ∃ o : Obj, W.heap[r]? = some o ∧ o.isCells = false) (h : W.heap[k]? = some (.cells cs t (0, 0))) : W'.heap[k]? = some (.cells cs t (0, 0)) := by
 refine (hg.block k (lt_of_block h) fun e => ?_).trans h
 obtain ⟨o, ho, hc⟩ := hr k e.symm
 rw [h] at ho
 cases ho
 cases hc
theorem CInv.own (N pb bs : Nat) (e : Int) : Own (CInv N pb bs e) := fun ps A C row hs hg hr => by
 obtain ⟨h1, h2, hz, v, hv, ho⟩ := hs
 refine ⟨heap_keep hg hr h1, heap_keep hg hr h2, Nat.le_trans hz hg.size, v, heap_keep hg hr hv, ho.kept hg ?_⟩
 rcases ho.2 with ⟨rfl, _⟩ | ⟨g, cap, cur, rfl, _, hh, _⟩
 ·exact .inl rfl
 ·right
  intro e
  obtain ⟨o, ho', hc⟩ := hr g e.symm
  rw [hh] at ho'
  cases ho'
  cases hc
theorem CInv.set_other {N pb bs k : Nat} {e : Int} {ps : List (List UInt8)} {W : World} (h : CInv N pb bs e ps W) (hN : N + 1 < k) (hpb : pb < k) (hk : k < bs) (u : Value) : CInv N pb bs e ps (W.setCell ⟨k, 0, none⟩ u) := by
 obtain ⟨h1, h2, hz, v, hv, ho⟩ := h
 exact ⟨(Below.heap_setCell _ _ _ _ (by show N ≠ k; omega)).trans h1, (Below.heap_setCell _ _ _ _ (by show N + 1 ≠ k; omega)).trans h2, by simpa [World.setCell] using hz, v, (Below.heap_setCell _ _ _ _ (by show pb ≠ k; omega)).trans hv, ownsRow_setCell_below ho (a := ⟨k, 0, none⟩) hk u⟩
theorem kept3_set {b k : Nat} (W : World) (u : Value) (h : k < b) : Kept3 b W (W.setCell ⟨k, 0, none⟩ u) :=
 ⟨Below.heap_setCell _ _ _ _ (by show b ≠ k; omega), Below.heap_setCell _ _ _ _ (by show b + 1 ≠ k; omega), Below.heap_setCell _ _ _ _ (by show b + 2 ≠ k; omega)⟩
theorem CInv.fail {N pb bs : Nat} {ps : List (List UInt8)} {W : World} (h : CInv N pb bs 0 ps W) (hN : N + 1 < pb) (hb : pb < bs) :
  CInv N pb bs 5 ps ((W.setCell ⟨N, 0, none⟩ (.string (B []))).setCell ⟨N + 1, 0, none⟩ (.int .i64 5)) := by
 obtain ⟨h1, h2, hz, v, hv, ho⟩ := h
 have g1 := one_setCell (u := .string (B [])) h1
 have g2 : (W.setCell ⟨N, 0, none⟩ (.string (B []))).heap[N + 1]? = _ := (Below.heap_setCell W ⟨N, 0, none⟩ _ (N + 1) (by show N + 1 ≠ N; omega)).trans h2
 refine ⟨(Below.heap_setCell _ _ _ _ (by show N ≠ N + 1; omega)).trans g1, one_setCell g2, by simpa [World.setCell] using hz, v, ?_, ?_⟩
 ·exact (Below.heap_setCell _ _ _ _ (by show pb ≠ N + 1; omega)).trans ((Below.heap_setCell _ _ _ _ (by show pb ≠ N; omega)).trans hv)
 ·exact ownsRow_setCell_below (ownsRow_setCell_below ho (a := ⟨N, 0, none⟩) (by show N < bs; omega) _) (a := ⟨N + 1, 0, none⟩) (by show N + 1 < bs; omega) _
theorem CInv.put {N pb bs : Nat} {e : Int} {ps qs : List (List UInt8)} {W : World} (h : CInv N pb bs e ps W) (hN : N + 1 < pb) (hb : pb < bs) {u : Value} (ho : W.ownsRow bs 9 1 u qs.length (qs.map fun x => Value.string (B x))) :
  CInv N pb bs e qs (W.setCell ⟨pb, 0, none⟩ u) := by
 obtain ⟨h1, h2, hz, v, hv, _⟩ := h
 exact ⟨(Below.heap_setCell _ _ _ _ (by show N ≠ pb; omega)).trans h1, (Below.heap_setCell _ _ _ _ (by show N + 1 ≠ pb; omega)).trans h2, by simpa [World.setCell] using hz, u, one_setCell hv, ownsRow_setCell_below ho (a := ⟨pb, 0, none⟩) hb u⟩
theorem CInv.push {N pb bs : Nat} {e : Int} {ps qs : List (List UInt8)} {W W' : World} {row : Option Nat} {u : Value} (h : CInv N pb bs e ps W) (hN : N + 1 < pb) (hb : pb < bs) (hg : W.grownBy W' row) (hr : ∀ k, row = some k → bs ≤ k)
  (ho : W'.ownsRow bs 9 1 u qs.length (qs.map fun x => Value.string (B x))) :
  (∃ v, W'.heap[pb]? = some (.cells #[v] 23 (0, 0))) ∧ CInv N pb bs e qs (W'.setCell ⟨pb, 0, none⟩ u) := by
 obtain ⟨h1, h2, hz, v, hv, _⟩ := h
 have keep : ∀ k, k < bs → k < W.heap.size → W'.heap[k]? = W.heap[k]? := fun k hk hl => hg.block k hl (fun e => by have := hr k e.symm; omega)
 have g1 := (keep N (by omega) (lt_of_block h1)).trans h1
 have g2 := (keep _ (by omega) (lt_of_block h2)).trans h2
 have g3 := (keep pb hb (lt_of_block hv)).trans hv
 exact ⟨⟨v, g3⟩, (Below.heap_setCell _ _ _ _ (by show N ≠ pb; omega)).trans g1, (Below.heap_setCell _ _ _ _ (by show N + 1 ≠ pb; omega)).trans g2, by simpa [World.setCell] using Nat.le_trans hz hg.size, u, one_setCell g3, ownsRow_setCell_below ho (a := ⟨pb, 0, none⟩) hb u⟩
theorem kept3_grown {b bs : Nat} {W W' : World} {row : Option Nat} (hg : W.grownBy W' row) (hr : ∀ k, row = some k → bs ≤ k) (hb : b + 2 < bs) (hz : bs ≤ W.heap.size) : Kept3 b W W' := by
 have keep : ∀ k, k < bs → W'.heap[k]? = W.heap[k]? := fun k hk => hg.block k (by omega) (fun e => by have := hr k e.symm; omega)
 exact ⟨keep _ (by omega), keep _ (by omega), keep _ (by omega)⟩
theorem keepsOthers_own {bs n : Nat} {v : Value} {xs : List Value} {W W' : World} (ho : W.ownsRow bs 9 1 v n xs) (hg : W.grownBy W' v.ownBlock) : KeepsOthers W W' := by
 refine ⟨hg.size, fun k o hk hc => (hg.block k (Array.getElem?_eq_some_iff.1 hk).1 fun e => ?_).trans hk⟩
 rcases ho.2 with ⟨rfl, _⟩ | ⟨g, cap, cur, rfl, _, hh, _⟩
 ·simp [Value.ownBlock] at e
 ·simp only [Value.ownBlock, Option.some.injEq] at e
  subst e
  rw [hh] at hk
  cases hk
  cases hc
def totalP (l : List (List UInt8)) : Nat := (l.map List.length).sum
theorem joinP_len (ps : List (List UInt8)) : (joinP ps).length ≤ totalP ps + ps.length := by
 induction ps with
 | nil => simp [joinP, List.intercalate]
 | cons p ps ih =>
  cases ps with
  | nil => simp [joinP, List.intercalate, totalP]
  | cons q r =>
   have e : joinP (p :: q :: r) = p ++ 47 :: joinP (q :: r) := by simp [joinP, List.intercalate, List.intersperse]
   rw [e]
   simp [totalP] at ih ⊢
   omega
theorem totalP_dropLast (ps : List (List UInt8)) : totalP ps.dropLast ≤ totalP ps := by
 by_cases h : ps = []
 ·subst h; simp
 ·obtain ⟨qs, q, rfl⟩ : ∃ qs q, ps = qs ++ [q] := ⟨ps.dropLast, ps.getLast h, (List.dropLast_concat_getLast h).symm⟩
  simp [totalP]
theorem foldP_total (a : List (List UInt8)) : ∀ ps qs, foldP a ps = some qs → totalP qs ≤ totalP ps + totalP a := by
 induction a with
 | nil => intro ps qs h; simp [foldP] at h; subst h; simp [totalP]
 | cons p a ih =>
  intro ps qs h
  have hc : totalP (p :: a) = p.length + totalP a := by simp [totalP]
  rw [foldP] at h
  split at h
  ·have := ih _ _ h; omega
  ·split at h
   ·split at h
    ·cases h
    ·have := ih _ _ h; have := totalP_dropLast ps; omega
   ·have := ih _ _ h
    have e : totalP (ps ++ [p]) = totalP ps + p.length := by simp [totalP]
    omega
theorem splitK_total (c : UInt8) (l : List UInt8) : totalP (splitK c 0 l) ≤ l.length := by
 induction l with
 | nil => simp [splitK, totalP]
 | cons b l ih =>
  rw [splitK]; split
  ·simp [totalP] at ih ⊢; omega
  ·split
   ·simp [totalP]
   ·rename_i p ps he
    rw [he] at ih
    simp [totalP] at ih ⊢; omega
theorem join_calls (bs : Nat) (v : Value) (ps : List (List UInt8)) (W : World) (ho : W.ownsRow bs 9 1 v ps.length (ps.map fun x => Value.string (B x))) (hl : totalP ps + ps.length ≤ 1000000) :
  Calls Tryz.prog 96 #[v, .string ⟨#[47]⟩] W fun e w' => e = .returned (.string (B (joinP ps))) ∧ Below W.heap.size W w' := by
 by_cases h0 : ps = []
 ·subst h0
  obtain ⟨A0, c0, rfl⟩ := own_slice ho
  exact (Tryz.strings_Join_none A0 c0 ⟨#[47]⟩ W).mono fun e w' ⟨he, hw⟩ => ⟨he, hw ▸ Below.refl _ _⟩
 ·have hpos := List.length_pos_iff.2 h0
  have ho' := ho
  rcases ho.2 with ⟨_, hz⟩ | ⟨g, cap, cur, rfl, _, hh, hcap1, hcap2, _⟩
  ·omega
  have hj : (ps.map B).map (fun x => x.data.toList) = ps := by simp [Function.comp_def]
  have := Tryz.strings_Join g 0 cap (ps.map B) ⟨#[47]⟩ W (fun j x hx => by
   have hj : j < ps.length := by have := (List.getElem?_eq_some_iff.1 hx).1; simpa using this
   have hc := ho'.cellAt j (by omega)
   rw [Nat.zero_add, hc]
   simp [List.getElem?_eq_getElem hj] at hx ⊢
   exact hx) (lt_of_block hh) (by simp; omega) (by simp; omega) (by
    rw [hj]; have := joinP_len ps; show (joinP ps).length ≤ _; omega)
  rw [hj, List.length_map] at this
  exact this
theorem infoStr : (Tryz.prog.info? 9).map (fun i => (i.zero, i.size, i.bytes)) = some (some (.string ⟨#[]⟩), 1, 16) := by kernel_rfl
theorem clean_leave (D N : Nat) (w W : World) (s : ByteArray) (e : Int) (tmps : Array Value) (ht2 : tmps[2]?.getD undef = .pointer (some ⟨N, 0, none⟩)) (ht3 : tmps[3]?.getD undef = .pointer (some ⟨N + 1, 0, none⟩))
  (h1 : W.heap[N]? = some (.cells #[.string s] 9 (0, 0))) (h2 : W.heap[N + 1]? = some (.cells #[.int .i64 e] 41 (0, 0))) (hK : W.heap[D]? = some (.deferred (some []))) (hD : w.heap.size ≤ D) (hB : Below w.heap.size w W) :
  bodyPostM Fence.wide 3 Tryz.prog Tryz.f118 (fun e' w' => e' = .returned (.tuple #[.string s, .int .i64 e]) ∧ Below w.heap.size w w') .ret { tmps := tmps, defers := [{ target := .collected D, args := #[] }] } W := by
 refine ⟨by simp, .inl ⟨_, _, rfl, run_takeDeferred hK, ?_⟩⟩
 have c1 := cell_kept (cell_of_one h1) (grownBy_putObj' _ D (.deferred none)) (fun r e => by cases e; exact ⟨_, hK, rfl⟩)
 have c2 := cell_kept (cell_of_one h2) (grownBy_putObj' _ D (.deferred none)) (fun r e => by cases e; exact ⟨_, hK, rfl⟩)
 refine ⟨.tuple #[.string s, .int .i64 e], ?_, rfl, hB.trans (belowK_b (w := w) (Nat.le_refl _) W D _ _ hD hK rfl rfl)⟩
 simp [results, Tryz.f118, go_sem, ht2, ht3, c1, c2]
attribute [local go_sem] Oper.semAt_some
set_option maxRecDepth 100000 in
set_option maxHeartbeats 8000000 in
theorem clean_main (l : List UInt8) (h : l.length ≤ 1000) (hb : ¬ l.head? = some 47) (hp : l.all plainB = true) (r : List UInt8 × Int) (hr : cleanL l = r) (w : World) :
  Calls Tryz.prog 118 #[.string (B l)] w fun e w' => e = .returned (.tuple #[.string (B r.1), .int .i64 r.2]) ∧ Below w.heap.size w w' := by
 have hs : (B l).size = l.length := size_B l
 have h' : (l.length : Int) ≤ 1000 := by omega
 have HP : Hid (∀ W, Calls Tryz.prog 139 #[.string (B l), .string ⟨#[47]⟩] W fun e w' => e = .returned (.bool false) ∧ W = w') := fun W => by
  have := Tryz.strings_HasPrefix (B l) ⟨#[47]⟩ W
  rw [data_B, hasPrefix_slash, decide_eq_false hb] at this
  exact this.mono fun e w' ⟨he, hw⟩ => ⟨he, hw.symm⟩
 have HI := Lib.hid (idx_calls l (-1) ((idx_plain l).1 hp))
 have HB := Lib.hid hb
 have HPL := Lib.hid hp
 have HR := Lib.hid hr
 clear hb hp hr
 refine (callsIn_wide (n := 3)).1 ?_
 refine callsIn_of_wp_marks Tryz.func118 rfl trivial ?_ rfl
 simp only [Tryz.ntmps118, List.size_toArray, List.length_cons, List.length_nil, Nat.reduceAdd, Nat.reduceSub, Array.replicate_succ, Array.replicate_zero, List.push_toArray, List.append_toArray, List.nil_append, List.cons_append]
 refine wpIn_wide.2 ?_
 obtain ⟨Q, hQ⟩ : ∃ Q, bodyPostM Fence.wide 3 Tryz.prog Tryz.f118 (fun e w' => e = .returned (.tuple #[.string (B r.1), .int .i64 r.2]) ∧ Below w.heap.size w w') = Q := ⟨_, rfl⟩
 rw [hQ]
 have HQ := Lib.hid hQ
 clear hQ
 go_wp2
 go_step3
 go_wp2_with fail
 refine (HP.out _).mono ?_
 rintro e w' ⟨rfl, rfl⟩
 go_wp2_with fail
 refine (HI.out _).mono ?_
 rintro e w1 ⟨rfl, hb⟩
 go_wp2_with fail
 go_step3
 have hd : decide ((1000 : Int) < (l.length : Int)) = false := by simp; omega
 have hlt1 : w.heap.size + 1 < w1.heap.size := by have := hb.size; simp at this; omega
 obtain ⟨W0, hW0⟩ : ∃ W0, w1.alloc (.cells #[.slice none 0 0] 23) = W0 := ⟨_, rfl⟩
 have hz0 : W0.heap.size = w1.heap.size + 1 := by rw [← hW0]; simp
 have b1 : W0.heap[w.heap.size]? = some (.cells #[.string (B [])] 9 (0, 0)) := by
  rw [← hW0]; exact (Below.heap_alloc _ _ _ (by omega)).trans ((hb.block _ (by simp; omega)).trans ((Below.heap_alloc _ _ _ (by simp)).trans (heap_alloc_new w _)))
 have b2 : W0.heap[w.heap.size + 1]? = some (.cells #[.int .i64 0] 41 (0, 0)) := by
  rw [← hW0]; exact (Below.heap_alloc _ _ _ (by omega)).trans ((hb.block _ (by simp)).trans (by simpa using heap_alloc_new (w.alloc _) _))
 have b3 : W0.heap[w1.heap.size]? = some (.cells #[.slice none 0 0] 23 (0, 0)) := by rw [← hW0]; exact heap_alloc_new _ _
 have hB0 : Below w.heap.size w W0 := by
  rw [← hW0]; exact ((((Below.refl _ w).alloc (Nat.le_refl _) _).alloc (by simp) _).trans (hb.mono (by simp; omega))).alloc (by omega) _
 rw [hW0]
 have H1 := Lib.hid b1
 have H2 := Lib.hid b2
 have H3 := Lib.hid b3
 have HB0 := Lib.hid hB0
 have HZ0 := Lib.hid hz0
 clear hW0 hb b1 b2 b3 hB0 hz0
 go_wp2_with fail
 refine (SplitSeq_calls l _).mono ?_
 rintro e w2 ⟨rfl, hb2, hz2, i0, i1, i2⟩
 rw [HZ0.out] at hz2 i0 i1 i2
 have HBB2 := Lib.hid hb2
 have I0 := Lib.hid i0
 have I1 := Lib.hid i1
 have I2 := Lib.hid i2
 have HZ2 := Lib.hid hz2
 clear hb2 i0 i1 i2 hz2
 go_wp2_with fail
 refine wpIn_wide.1 (wp_range_str (gf := 185) (lb := #[.pointer (some ⟨W0.heap.size + 1, 0, none⟩), .pointer (some ⟨W0.heap.size, 0, none⟩), .pointer (some ⟨W0.heap.size + 2, 0, none⟩)]) rfl (enters_of Tryz.func185 (by kernel_rfl) rfl)
  (split_seq 47 0 (by omega) W0.heap.size l (by omega) w2 ?hlt ?i0 ?i1 ?i2) (Below.refl _ _) ?hbw
  (fun pre W => (∃ pl ps, pre = pl.map B ∧ pl <+: splitK 47 0 l ∧ foldP pl [] = some ps ∧ CInv w.heap.size w1.heap.size w2.heap.size 0 ps W) ∧ Below w.heap.size w W)
  (fun c pre W => (c = .ret ∧ foldP (splitK 47 0 l) [] = none ∧ ∃ ps, CInv w.heap.size w1.heap.size w2.heap.size 5 ps W) ∧ Below w.heap.size w W)
  ?hI ?hIx ?hIs ?h0 ?a1 ?assign ?body ?done ?stop)
 case i0 => rw [HZ0.out]; exact I0.out
 case i1 => rw [HZ0.out]; exact I1.out
 case i2 => rw [HZ0.out]; exact I2.out
 case hlt => rw [HZ0.out]; exact HZ2.out
 case hbw => rw [HZ0.out]; exact HZ2.out
 case hI =>
  refine OwnFrom.and (Own.from (fun s A C row hs hg hr => ?_) _) (ownFrom_below (Nat.le_refl _) ?_)
  ·obtain ⟨pl, ps, h1, h2, h3, h4⟩ := hs
   exact ⟨pl, ps, h1, h2, h3, CInv.own _ _ _ _ ps A C row h4 hg hr⟩
  ·have := HZ2.out; omega
 case hIx =>
  intro c
  refine OwnFrom.and (Own.from (fun s A C row hs hg hr => ?_) _) (ownFrom_below (Nat.le_refl _) ?_)
  ·obtain ⟨h1, h2, ps, h4⟩ := hs
   exact ⟨h1, h2, ps, CInv.own _ _ _ _ ps A C row h4 hg hr⟩
  ·have := HZ2.out; omega
 case hIs =>
  rintro pre W u ⟨⟨pl, ps, h1, h2, h3, h4⟩, h5⟩
  exact ⟨⟨pl, ps, h1, h2, h3, h4.set_other (by have := HZ0.out; omega) (by have := HZ0.out; omega) (by have := HZ0.out; have := HZ2.out; omega) u⟩, h5.setCell (by show w.heap.size ≤ W0.heap.size; have := HZ0.out; omega) u⟩
 case h0 =>
  refine ⟨⟨[], [], rfl, List.nil_prefix, rfl, (HBB2.out.block _ (by have := HZ0.out; omega)).trans H1.out, (HBB2.out.block _ (by have := HZ0.out; omega)).trans H2.out, Nat.le_refl _, .slice none 0 0, (HBB2.out.block _ (by have := HZ0.out; omega)).trans H3.out, World.ownsRow_nil _ _ _ _⟩, ?_⟩
  exact HB0.out.trans (HBB2.out.mono (by have := HZ0.out; omega))
 case assign =>
  intro l' x W K hK
  simp only [List.zip_toArray, List.zip_cons_cons, List.zip_nil_right, List.foldl_toArray, List.foldl_cons, List.foldl_nil, List.setIfInBounds_toArray, List.set_cons_succ, List.set_cons_zero]
  gi_wp2
  exact hK
 case body =>
  have hpb : w1.heap.size < w2.heap.size := by have := HZ0.out; have := HZ2.out; omega
  rintro l' pre x W ⟨⟨pl, ps, rfl, hpl, hps, hinv⟩, hB⟩ hpx
  obtain ⟨p, rfl, hpp⟩ := map_snoc_prefix hpx
  have hfold : foldP (pl ++ [p]) [] = foldP [p] ps := by rw [foldP_append, hps]; rfl
  have HF := Lib.hid hfold
  have hlp := foldP_len _ _ _ hps
  have hlk := splitK_len 47 0 l
  have hll := hpl.length_le
  have hpn : ps.length ≤ 1001 := by simp at hlp; omega
  have HI := Lib.hid hinv
  have HPP := Lib.hid hpp
  obtain ⟨v, hv, hown⟩ := hinv.parts
  have c1 := cell_of_one hinv.r1
  have f1 := free_of_one hinv.r1
  have c2 := cell_of_one hinv.r2
  have f2 := free_of_one hinv.r2
  have c3 := cell_of_one hv
  have f3 := free_of_one hv
  clear hfold hlp hlk hll hpl hps hpx hpp hinv
  by_cases p0 : p = []
  ·subst p0
   gi_wp2_with fail
   exact ⟨KeepsFrom.refl _ _, Kept3.refl _ _, ⟨pl ++ [[]], ps, by simp, HPP.out, by rw [HF.out]; simp [foldP], HI.out⟩, hB⟩
  by_cases p1 : p = [46]
  ·subst p1
   gi_wp2_with fail
   exact ⟨KeepsFrom.refl _ _, Kept3.refl _ _, ⟨pl ++ [[46]], ps, by simp, HPP.out, by rw [HF.out]; simp [foldP], HI.out⟩, hB⟩
  by_cases p2 : p = [46, 46]
  ·subst p2
   by_cases hps0 : ps = []
   ·subst hps0
    obtain ⟨A0, c0, rfl⟩ := own_slice hown
    gi_wp2_with fail
    refine ⟨((KeepsOthers.setCell _ _ _).trans (KeepsOthers.setCell _ _ _)).from _, ⟨rfl, foldP_none HPP.out (by rw [HF.out]; simp [foldP]), [], HI.out.fail hlt1 hpb⟩, ?_⟩
    exact (hB.setCell (Nat.le_refl _) _).setCell (Nat.le_succ _) _
   ·obtain ⟨qs, q, rfl⟩ : ∃ qs q, ps = qs ++ [q] := ⟨ps.dropLast, ps.getLast hps0, (List.dropLast_concat_getLast hps0).symm⟩
    rw [List.length_append, List.length_singleton, List.map_append] at hown
    have hown' := hown
    rcases hown'.2 with ⟨_, h0⟩ | ⟨g, cap, cur, rfl, _, _, hcap1, hcap2, _⟩
    ·omega
    have hpop := ownsRow_pop (by simp) hown
    have HPOP := Lib.hid hpop
    have hcap3 : ((qs.length : Int)) ≤ (cap : Int) := by omega
    have hq : qs.length ≤ 1001 := by rw [List.length_append] at hpn; omega
    clear hown hown' hpop hpn
    gi_wp2_with fail
    refine ⟨(KeepsOthers.setCell _ _ _).from _, kept3_set _ _ (by have := HZ0.out; omega), ⟨pl ++ [[46, 46]], qs, by simp, HPP.out, by rw [HF.out]; simp [foldP], HI.out.put hlt1 hpb HPOP.out⟩, ?_⟩
    exact hB.setCell (by show w.heap.size ≤ w1.heap.size; omega) _
  ·have q0 : p.isEmpty = false := by simpa using p0
   have q1 : (p == [46]) = false := by simpa using p1
   have q2 : (p == [46, 46]) = false := by simpa using p2
   have HFF : Hid (foldP [p] ps = some (ps ++ [p])) := by
    show foldP [p] ps = some (ps ++ [p])
    simp [foldP, p0, p1, p2]
   clear p0 p1 p2
   obtain ⟨i0, hi, hz0, hz1, hz2⟩ := info_parts infoStr
   have hle2 := HI.out.le
   gi_wp2_with (gi_at_builtin; go_must (refine wpListIn_append_own _ rfl _ _ 23 rfl w2.heap.size 9 i0 (.string ⟨#[]⟩) 1 16 Tryz.underlying23 hi hz0 hz1 hz2 rfl (by decide) _ _ _ rfl (hown.alloc _) ⟨W.heap.size, 0, none⟩ 1 1 [.string (B p)] rfl rfl (cell_one_new _ _ _) (by simp [Value.oneCell']) (by unfold maxLen; omega) (by omega) (by simp; omega) ?_; intro v' w3 hown' hgrow _; obtain ⟨g', cap', rfl⟩ := ownsRow_succ hown'; have HG := Lib.hid ((World.grownBy_alloc W _ v.ownBlock).trans hgrow); have HP := Lib.hid (HI.out.push hlt1 hpb HG.out (own_base hown) (qs := ps ++ [p]) (by simpa using hown')); obtain ⟨v3, hv3⟩ := HP.out.1; have k3 := cell_of_one hv3; have m3 := free_of_one hv3; clear hown' hgrow))
   have hKO : KeepsOthers W w3 := keepsOthers_own hown HG.out
   have hK3 : Kept3 W0.heap.size W w3 := kept3_grown HG.out (own_base hown) (by have := HZ0.out; have := HZ2.out; omega) hle2
   have hBW : Below w.heap.size w w3 := hB.grown HG.out hB.size (fun k hk => by have := own_base hown k hk; omega)
   refine ⟨(hKO.trans (KeepsOthers.setCell _ _ _)).from _, hK3.trans (kept3_set _ _ (by have := HZ0.out; omega)), ⟨pl ++ [p], ps ++ [p], by simp, HPP.out, by rw [HF.out, HFF.out], HP.out.2⟩, ?_⟩
   exact hBW.setCell (by show w.heap.size ≤ w1.heap.size; omega) _
 case done =>
  rintro D W hD ⟨⟨pl, ps, hpl, hpre, hps, hinv⟩, hB⟩ hK
  obtain rfl : pl = splitK 47 0 l := ((List.map_inj_right (fun _ _ e => B_inj e)).1 hpl).symm
  obtain ⟨v, hv, hown⟩ := hinv.parts
  have c1 := cell_of_one hinv.r1
  have f1 := free_of_one hinv.r1
  have c2 := cell_of_one hinv.r2
  have f2 := free_of_one hinv.r2
  have c3 := cell_of_one hv
  have f3 := free_of_one hv
  have HPS := Lib.hid hps
  have HIN := Lib.hid hinv
  have ht1 := foldP_total _ _ _ hps
  have ht2 := splitK_total 47 l
  have ht3 := foldP_len _ _ _ hps
  have ht4 := splitK_len 47 0 l
  have HJ := Lib.hid (join_calls w2.heap.size v ps W hown (by simp [totalP] at ht1 ht2 ht3; simp [totalP]; omega))
  have hD2 : w.heap.size ≤ D := by have := HZ0.out; have := HZ2.out; omega
  clear ht1 ht2 ht3 ht4 hown hps hpl hpre hinv
  go_wp2_with fail
  refine HJ.out.mono ?_
  rintro e w4 ⟨rfl, hb4⟩
  have n1 := (hb4.block _ (lt_of_block HIN.out.r1)).trans HIN.out.r1
  have n2 := (hb4.block _ (lt_of_block HIN.out.r2)).trans HIN.out.r2
  have N1 := Lib.hid n1
  have N2 := Lib.hid n2
  have k1 := cell_of_one n1
  have m1 := free_of_one n1
  have k2 := cell_of_one n2
  have m2 := free_of_one n2
  have HK4 := Lib.hid ((hb4.block _ (Array.getElem?_eq_some_iff.1 hK).1).trans hK)
  have HB4 := Lib.hid (hB.trans (hb4.mono hB.size))
  clear c1 f1 c2 f2 c3 f3 n1 n2 hb4 hK hB hv
  by_cases q0 : joinP ps = []
  ·have q1 : (joinP ps).isEmpty = true := by simpa using q0
   have hres : r = ([], 5) := by rw [← HR.out]; simp [cleanL, Nat.not_lt.2 h, HB.out, HPL.out, HPS.out, q0]
   have HRES := Lib.hid hres
   clear hres q0
   go_wp2_with fail
   all_goals
    rw [Exit.noGoto_ret, ← HQ.out]
    have s1 := one_setCell (u := .string (B [])) N1.out
    have s2 : (w4.setCell ⟨w.heap.size, 0, none⟩ (.string (B []))).heap[w.heap.size + 1]? = _ := (Below.heap_setCell w4 ⟨w.heap.size, 0, none⟩ _ (w.heap.size + 1) (by show w.heap.size + 1 ≠ w.heap.size; omega)).trans N2.out
    have s3 := one_setCell (u := .int .i64 5) s2
    have s4 := (Below.heap_setCell (w4.setCell ⟨w.heap.size, 0, none⟩ (.string (B []))) ⟨w.heap.size + 1, 0, none⟩ (.int .i64 5) w.heap.size (by show w.heap.size ≠ w.heap.size + 1; omega)).trans s1
    rw [HRES.out]
    exact clean_leave D w.heap.size w _ _ _ _ rfl rfl s4 s3 (((KeepsOthers.setCell _ _ _).trans (KeepsOthers.setCell _ _ _)).same _ _ HK4.out rfl) (by omega) ((HB4.out.setCell (Nat.le_refl _) _).setCell (Nat.le_succ _) _)
  ·have q1 : (joinP ps).isEmpty = false := by simpa using q0
   have hjs : (B (joinP ps)).size = (joinP ps).length := size_B _
   by_cases q2 : 100 < (joinP ps).length
   ·have hres : r = ([], 3) := by rw [← HR.out]; simp [cleanL, Nat.not_lt.2 h, HB.out, HPL.out, HPS.out, q0, q2]
    have HRES := Lib.hid hres
    have q3 : (100 : Int) < ((joinP ps).length : Int) := by omega
    clear hres q0 q2
    go_wp2_with fail
    all_goals
     rw [Exit.noGoto_ret, ← HQ.out]
     have s1 := one_setCell (u := .string (B [])) N1.out
     have s2 : (w4.setCell ⟨w.heap.size, 0, none⟩ (.string (B []))).heap[w.heap.size + 1]? = _ := (Below.heap_setCell w4 ⟨w.heap.size, 0, none⟩ _ (w.heap.size + 1) (by show w.heap.size + 1 ≠ w.heap.size; omega)).trans N2.out
     have s3 := one_setCell (u := .int .i64 3) s2
     have s4 := (Below.heap_setCell (w4.setCell ⟨w.heap.size, 0, none⟩ (.string (B []))) ⟨w.heap.size + 1, 0, none⟩ (.int .i64 3) w.heap.size (by show w.heap.size ≠ w.heap.size + 1; omega)).trans s1
     rw [HRES.out]
     exact clean_leave D w.heap.size w _ _ _ _ rfl rfl s4 s3 (((KeepsOthers.setCell _ _ _).trans (KeepsOthers.setCell _ _ _)).same _ _ HK4.out rfl) (by omega) ((HB4.out.setCell (Nat.le_refl _) _).setCell (Nat.le_succ _) _)
   ·have hres : r = (joinP ps, 0) := by rw [← HR.out]; simp [cleanL, Nat.not_lt.2 h, HB.out, HPL.out, HPS.out, q0, q2]
    have HRES := Lib.hid hres
    have q3 : ((joinP ps).length : Int) ≤ 100 := by omega
    clear hres q0 q2
    go_wp2_with fail
    all_goals
     rw [Exit.noGoto_ret, ← HQ.out]
     have s1 := one_setCell (u := .string (B (joinP ps))) N1.out
     have s2 : (w4.setCell ⟨w.heap.size, 0, none⟩ (.string (B (joinP ps)))).heap[w.heap.size + 1]? = _ := (Below.heap_setCell w4 ⟨w.heap.size, 0, none⟩ _ (w.heap.size + 1) (by show w.heap.size + 1 ≠ w.heap.size; omega)).trans N2.out
     have s3 := one_setCell (u := .int .i64 0) s2
     have s4 := (Below.heap_setCell (w4.setCell ⟨w.heap.size, 0, none⟩ (.string (B (joinP ps)))) ⟨w.heap.size + 1, 0, none⟩ (.int .i64 0) w.heap.size (by show w.heap.size ≠ w.heap.size + 1; omega)).trans s1
     rw [HRES.out]
     exact clean_leave D w.heap.size w _ _ _ _ rfl rfl s4 s3 (((KeepsOthers.setCell _ _ _).trans (KeepsOthers.setCell _ _ _)).same _ _ HK4.out rfl) (by omega) ((HB4.out.setCell (Nat.le_refl _) _).setCell (Nat.le_succ _) _)
 case stop =>
  rintro D c pre W hD hpre ⟨⟨rfl, hnone, ps, hinv⟩, hB⟩ hK
  have hres : r = ([], 5) := by rw [← HR.out]; simp [cleanL, Nat.not_lt.2 h, HB.out, HPL.out, hnone]
  have HRES := Lib.hid hres
  clear hres
  refine wpIn_wide.2 ?_
  go_wp2_with fail
  rw [Exit.noGoto_ret, ← HQ.out, HRES.out]
  exact clean_leave D w.heap.size w _ _ _ _ rfl rfl hinv.r1 hinv.r2 hK (by have := HZ0.out; have := HZ2.out; omega) hB
def path_Clean.f (a0 : ByteArray) : Option (ByteArray × Int) := some (B (cleanL a0.data.toList).1, (cleanL a0.data.toList).2)
theorem clean_any (l : List UInt8) (w : World) :
  Calls Tryz.prog 118 #[.string (B l)] w fun e w' => e = .returned (.tuple #[.string (B (cleanL l).1), .int .i64 (cleanL l).2]) ∧ Below w.heap.size w w' := by
 by_cases h1 : 1000 < l.length
 ·have e : cleanL l = ([], 3) := by simp [cleanL, h1]
  rw [e]; exact clean_long l h1 w
 ·by_cases h2 : l.head? = some 47
  ·have e : cleanL l = ([], 5) := by simp [cleanL, h1, h2]
   rw [e]; exact clean_slash l (by omega) h2 w
  ·by_cases h3 : l.all plainB = false
   ·have e : cleanL l = ([], 5) := by rw [cleanL, if_neg h1, if_pos (.inr h3)]
    rw [e]; exact clean_bad l (by omega) h2 h3 w
   ·exact clean_main l (by omega) h2 (by simpa using h3) _ rfl w
theorem path_Clean.calls (a0 : ByteArray) (r1 : ByteArray) (r2 : Int) (w : World) (h : path_Clean.f a0 = some (r1, r2)) :
  Calls Tryz.prog 118 #[.string a0] w fun e w' => e = .returned (.tuple #[.string r1, .int .i64 r2]) ∧ Below w.heap.size w w' := by
 have h' := Option.some.inj h
 obtain ⟨rfl, rfl⟩ : B (cleanL a0.data.toList).1 = r1 ∧ (cleanL a0.data.toList).2 = r2 := by
  constructor
  ·exact congrArg Prod.fst h'
  ·exact congrArg Prod.snd h'
 have := clean_any a0.data.toList w
 rwa [← B_of] at this
end Go.Proofs.YtnegfigaiomehaaGreatDoor.P
end
section
namespace Go.Proofs.YtnegfigaiomehaaGreatDoor.PTh
open Go.RowKit Go.Proofs.YtnegfigaiomehaaGreatDoorW.PrintWords Go.Proofs.YtnegfigaiomehaaGreatDoor.U Go.Proofs.YtnegfigaiomehaaGreatDoor.P Go.Proofs.YtnegfigaiomehaaGreatDoor.Rng
abbrev sp (l : List UInt8) : List (List UInt8) := splitK 47 0 l
def Good (p : List UInt8) : Prop := p ≠ [] ∧ p ≠ [46] ∧ p ≠ [46, 46] ∧ (47 : UInt8) ∉ p
theorem sp_none (l : List UInt8) (h : (47 : UInt8) ∉ l) : sp l = [l] := splitK_none 47 0 l h
theorem sp_at (a l : List UInt8) (h : (47 : UInt8) ∉ a) : sp (a ++ 47 :: l) = a :: sp l := by
 have := splitK_at 47 0 a l h
 simpa using this
theorem sp_ne (l : List UInt8) : sp l ≠ [] := splitK_ne 47 0 l
theorem sp_cons {b : UInt8} {l q : List UInt8} {qs : List (List UInt8)} (hb : b ≠ 47) (h : sp l = q :: qs) : sp (b :: l) = (b :: q) :: qs := by
 show splitK 47 0 (b :: l) = _
 rw [splitK, if_neg hb, show splitK 47 0 l = q :: qs from h]
theorem sp_parts (l : List UInt8) : ∀ p ∈ sp l, (47 : UInt8) ∉ p := by
 induction l with
 | nil => intro p hp; simp [splitK] at hp; subst hp; simp
 | cons b l ih =>
  by_cases hb : b = 47
  ·subst hb
   have e2 : sp (47 :: l) = [] :: sp l := sp_at [] _ (by simp)
   rw [e2]; intro p hp
   rcases List.mem_cons.1 hp with rfl | hp
   ·simp
   ·exact ih p hp
  ·cases h : sp l with
   | nil => exact absurd h (sp_ne l)
   | cons q qs =>
    rw [h] at ih
    rw [sp_cons hb h]
    intro p hp
    rcases List.mem_cons.1 hp with rfl | hp
    ·have := ih q (by simp)
     simp [this, Ne.symm hb]
    ·exact ih p (by simp [hp])
theorem sp_sub (f : UInt8 → Bool) (l : List UInt8) (hl : l.all f = true) : ∀ p ∈ sp l, p.all f = true := by
 induction l with
 | nil => intro p hp; simp [splitK] at hp; subst hp; rfl
 | cons b l ih =>
  simp only [List.all_cons, Bool.and_eq_true] at hl
  by_cases hb : b = 47
  ·subst hb
   have e2 : sp (47 :: l) = [] :: sp l := sp_at [] _ (by simp)
   rw [e2]; intro p hp
   rcases List.mem_cons.1 hp with rfl | hp
   ·rfl
   ·exact ih hl.2 p hp
  ·have ih := ih hl.2
   cases h : sp l with
   | nil => exact absurd h (sp_ne l)
   | cons q qs =>
    rw [h] at ih
    rw [sp_cons hb h]
    intro p hp
    rcases List.mem_cons.1 hp with rfl | hp
    ·simp only [List.all_cons, Bool.and_eq_true]; exact ⟨hl.1, ih q (by simp)⟩
    ·exact ih p (by simp [hp])
theorem joinP_nil : joinP [] = [] := rfl
theorem joinP_one (p : List UInt8) : joinP [p] = p := by simp [joinP, List.intercalate, List.intersperse]
theorem joinP_cons (p q : List UInt8) (ps : List (List UInt8)) : joinP (p :: q :: ps) = p ++ 47 :: joinP (q :: ps) := by
 simp [joinP, List.intercalate, List.intersperse]
theorem joinP_snoc (ps : List (List UInt8)) (h : ps ≠ []) (p : List UInt8) : joinP (ps ++ [p]) = joinP ps ++ 47 :: p := by
 induction ps with
 | nil => exact absurd rfl h
 | cons q ps ih =>
  cases ps with
  | nil => rw [joinP_one]; exact (joinP_cons q p []).trans (by rw [joinP_one])
  | cons r ps =>
   rw [List.cons_append, List.cons_append, joinP_cons, joinP_cons, ← List.cons_append, ih (by simp)]; simp
theorem joinP_append (ps qs : List (List UInt8)) (h : ps ≠ []) (h' : qs ≠ []) : joinP (ps ++ qs) = joinP ps ++ 47 :: joinP qs := by
 induction ps with
 | nil => exact absurd rfl h
 | cons q ps ih =>
  cases ps with
  | nil =>
   cases qs with
   | nil => exact absurd rfl h'
   | cons r qs => rw [joinP_one]; exact joinP_cons q r qs
  | cons r ps =>
   rw [List.cons_append, List.cons_append, joinP_cons, joinP_cons, ← List.cons_append, ih (by simp)]; simp
theorem sp_joinP (ps : List (List UInt8)) (h : ps ≠ []) (hp : ∀ p ∈ ps, (47 : UInt8) ∉ p) : sp (joinP ps) = ps := by
 induction ps with
 | nil => exact absurd rfl h
 | cons q ps ih =>
  cases ps with
  | nil => rw [joinP_one]; exact sp_none q (hp q (by simp))
  | cons r ps => rw [joinP_cons, sp_at _ _ (hp q (by simp)), ih (by simp) (fun p h => hp p (by simp [h]))]
theorem foldP_append (a b s : List (List UInt8)) : foldP (a ++ b) s = (foldP a s).bind (foldP b) := by
 induction a generalizing s with
 | nil => rfl
 | cons p a ih =>
  rw [List.cons_append]
  simp only [foldP]
  by_cases h1 : p = [] ∨ p = [46]
  ·rw [if_pos h1, if_pos h1]; exact ih s
  ·rw [if_neg h1, if_neg h1]
   by_cases h2 : p = [46, 46]
   ·rw [if_pos h2, if_pos h2]
    by_cases h3 : s = []
    ·rw [if_pos h3, if_pos h3]; rfl
    ·rw [if_neg h3, if_neg h3]; exact ih _
   ·rw [if_neg h2, if_neg h2]; exact ih _
theorem foldP_keeps (Q : List UInt8 → Prop) (qs s r : List (List UInt8)) (h : foldP qs s = some r) (hq : ∀ p ∈ qs, p ≠ [] → p ≠ [46] → p ≠ [46, 46] → Q p) (hs : ∀ p ∈ s, Q p) : ∀ p ∈ r, Q p := by
 induction qs generalizing s with
 | nil => simp [foldP] at h; subst h; exact hs
 | cons p qs ih =>
  have hq' : ∀ p ∈ qs, p ≠ [] → p ≠ [46] → p ≠ [46, 46] → Q p := fun q hm => hq q (by simp [hm])
  rw [foldP] at h
  by_cases h1 : p = [] ∨ p = [46]
  ·rw [if_pos h1] at h; exact ih s h hq' hs
  ·rw [if_neg h1] at h
   by_cases h2 : p = [46, 46]
   ·rw [if_pos h2] at h
    by_cases h3 : s = []
    ·rw [if_pos h3] at h; cases h
    ·rw [if_neg h3] at h
     exact ih _ h hq' (fun q hm => hs q (List.dropLast_subset s hm))
   ·rw [if_neg h2] at h
    refine ih _ h hq' (fun q hm => ?_)
    rcases List.mem_append.1 hm with hm | hm
    ·exact hs q hm
    ·obtain rfl := List.mem_singleton.1 hm
     exact hq q (by simp) (fun e => h1 (.inl e)) (fun e => h1 (.inr e)) h2
structure IsClean (c : List UInt8) (ps : List (List UInt8)) : Prop where
 ne : ps ≠ []
 good : ∀ p ∈ ps, Good p
 plain : ∀ p ∈ ps, p.all plainB = true
 eq : c = joinP ps
 len : c.length ≤ 100
theorem joinP_head {ps : List (List UInt8)} (hg : ∀ p ∈ ps, Good p) : (joinP ps).head? ≠ some 47 := by
 cases ps with
 | nil => simp [joinP_nil]
 | cons q ps =>
  obtain ⟨h1, _, _, h4⟩ := hg q (by simp)
  have h5 : ∃ b t, q = b :: t := by cases q with | nil => exact absurd rfl h1 | cons b t => exact ⟨b, t, rfl⟩
  obtain ⟨b, t, rfl⟩ := h5
  have hb : b ≠ 47 := fun e => h4 (by simp [e])
  cases ps with
  | nil => rw [joinP_one]; simpa using hb
  | cons r ps => rw [joinP_cons]; simpa using hb
theorem clean_is {l c : List UInt8} (h : cleanL l = (c, 0)) : ∃ ps, IsClean c ps := by
 rw [cleanL] at h
 split at h
 ·cases h
 ·split at h
  ·cases h
  ·rename_i h1 h2
   have h2' : l.all plainB = true := by
    cases h3 : l.all plainB with
    | true => rfl
    | false => exact absurd (.inr h3) h2
   cases hf : foldP (splitK 47 0 l) [] with
   | none => rw [hf] at h; cases h
   | some ps =>
    rw [hf] at h
    simp only at h
    split at h
    ·cases h
    ·split at h
     ·cases h
     ·rename_i h3 h4
      have hc : joinP ps = c := congrArg Prod.fst h
      refine ⟨ps, ?_, ?_, ?_, hc.symm, by rw [← hc]; omega⟩
      ·rintro rfl; exact h3 rfl
      ·exact foldP_keeps Good _ _ _ hf (fun p hp a b d => ⟨a, b, d, sp_parts l p hp⟩) (by simp)
      ·exact foldP_keeps (fun p => p.all plainB = true) _ _ _ hf (fun p hp _ _ _ => sp_sub plainB l h2' p hp) (by simp)
namespace IsClean
variable {c : List UInt8} {ps : List (List UInt8)} (h : IsClean c ps)
include h
theorem parts : sp c = ps := by rw [h.eq]; exact sp_joinP ps h.ne fun p hp => (h.good p hp).2.2.2
theorem head : c.head? ≠ some 47 := by rw [h.eq]; exact joinP_head h.good
end IsClean
end Go.Proofs.YtnegfigaiomehaaGreatDoor.PTh
end
section
namespace Go.Proofs.YtnegfigaiomehaaGreatDoor.P
open Go.RowKit Go.Proofs.YtnegfigaiomehaaGreatDoorW.PrintWords Go.Proofs.YtnegfigaiomehaaGreatDoorW.PrintLast Go.Proofs.YtnegfigaiomehaaGreatDoorW.PrintMore
attribute [local go_sem] max2_int min2_int max_two min_two max_three min_three max_four min_four
def path_Right.f (a0 : ByteArray) : Option (Bool) := (path_Clean.f a0).bind fun bt461 => (if bt461.2 = 0 then (some (bt461.1.toList == a0.toList)) else (some false))
set_option maxHeartbeats 8000000 in
set_option maxRecDepth 100000 in
theorem path_Right.calls (a0 : ByteArray) (r : Bool) (w : World) (h : path_Right.f a0 = some r) :
  Calls Tryz.prog 95 #[.string a0] w fun e w' => e = .returned (.bool r) ∧ Below w.heap.size w w' := by
 have HB := Aside0.mk (Below.refl w.heap.size w)
 have H : ((path_Clean.f a0).bind fun bt461 => (if bt461.2 = 0 then (some (bt461.1.toList == a0.toList)) else (some false))) = some r := h
 clear h
 replace H := Option.bind_eq_some_iff.mp H
 obtain ⟨⟨t461, t462⟩, A20, H⟩ := H
 replace H : (if t462 = 0 then (some (t461.toList == a0.toList)) else (some false)) = some r := H
 have A2 := Aside0.mk A20
 clear A20
 by_cases c3 : t462 = 0
 ·rw [if_pos c3] at H
  have c3b0 : (t462 == 0) = true := beq_iff_eq.mpr c3
  have c3b1 : (t462 != 0) = false := bne_eq_false_iff_eq.mpr c3
  clear c3
  obtain rfl := Option.some.inj H
  go_enter Tryz.func95, Tryz.ntmps95
  go_wp2_with (first | ((with_reducible refine gate_callee (f := 118) rfl ?_); refine goesL_ (some 7) rfl rfl Tryz.func118 (by kernel_rfl) rfl #[.string a0] rfl (by (try simp only [List.map_toArray, List.map_cons, List.map_nil]); first | done | rfl | (simp only [List.length_drop, List.length_take]; rfl)) ?_; (with_reducible refine (path_Clean.calls a0 t461 t462 _ A2.out).mono ?_); rintro e w4 ⟨rfl, hb⟩; refine ⟨_, rfl, ?_⟩; have n0_ := Aside0.mk (below_step (by repeat (first | (with_reducible first | exact HB.out | apply below_alloc | apply pw_below_drewN | apply below_drew1) | exact HB.out)) hb); clear HB; have HB := n0_; clear n0_; (try clear hb); (try clear hb2); (try clear hk); (try clear hi)))
  go_ret
  exact ⟨by first | rfl | (simp [errW_none, errW_some] <;> rfl) | (simp [*, errW_none, errW_some] <;> rfl), by repeat (first | (with_reducible first | exact HB.out | apply below_alloc | apply pw_below_drewN | apply below_drew1) | exact HB.out)⟩
 ·rw [if_neg c3] at H
  have c3b0 : (t462 == 0) = false := beq_eq_false_iff_ne.mpr c3
  have c3b1 : (t462 != 0) = true := bne_iff_ne.mpr c3
  obtain rfl := Option.some.inj H
  go_enter Tryz.func95, Tryz.ntmps95
  go_wp2_with (first | ((with_reducible refine gate_callee (f := 118) rfl ?_); refine goesL_ (some 7) rfl rfl Tryz.func118 (by kernel_rfl) rfl #[.string a0] rfl (by (try simp only [List.map_toArray, List.map_cons, List.map_nil]); first | done | rfl | (simp only [List.length_drop, List.length_take]; rfl)) ?_; (with_reducible refine (path_Clean.calls a0 t461 t462 _ A2.out).mono ?_); rintro e w5 ⟨rfl, hb⟩; refine ⟨_, rfl, ?_⟩; have n0_ := Aside0.mk (below_step (by repeat (first | (with_reducible first | exact HB.out | apply below_alloc | apply pw_below_drewN | apply below_drew1) | exact HB.out)) hb); clear HB; have HB := n0_; clear n0_; (try clear hb); (try clear hb2); (try clear hk); (try clear hi)))
  go_ret
  exact ⟨by first | rfl | (simp [errW_none, errW_some] <;> rfl) | (simp [*, errW_none, errW_some] <;> rfl), by repeat (first | (with_reducible first | exact HB.out | apply below_alloc | apply pw_below_drewN | apply below_drew1) | exact HB.out)⟩
end Go.Proofs.YtnegfigaiomehaaGreatDoor.P
end
section
namespace Go.Proofs.YtnegfigaiomehaaGreatDoor.PTh
open Go.RowKit Go.Proofs.YtnegfigaiomehaaGreatDoorW.PrintWords Go.Proofs.YtnegfigaiomehaaGreatDoor.U Go.Proofs.YtnegfigaiomehaaGreatDoor.P Go.Proofs.YtnegfigaiomehaaGreatDoor.Rng
theorem Clean_f (l : List UInt8) : path_Clean.f (B l) = some (B (cleanL l).1, (cleanL l).2) := rfl
theorem Right_f (l : List UInt8) : path_Right.f (B l) = some (decide (cleanL l = (l, 0))) := by
 rw [path_Right.f, Clean_f, Option.bind_some]
 simp only [toList_B]
 by_cases h : (cleanL l).2 = 0
 ·rw [if_pos h]
  congr 1
  rw [Bool.eq_iff_iff, beq_iff_eq, decide_eq_true_iff]
  exact ⟨fun e => Prod.ext e h, fun e => by rw [e]⟩
 ·rw [if_neg h]
  congr 1
  symm
  rw [decide_eq_false_iff_not]
  intro e; rw [e] at h; exact h rfl
end Go.Proofs.YtnegfigaiomehaaGreatDoor.PTh
end
section
namespace Go.Proofs.YtnegfigaiomehaaGreatDoor.P
open Go.RowKit Go.Lib Go.Shelf Go.Proofs.YtnegfigaiomehaaGreatDoorW.PrintWords Go.Proofs.YtnegfigaiomehaaGreatDoorW.PrintLast Go.Proofs.YtnegfigaiomehaaGreatDoorW.PrintMore Go.Proofs.YtnegfigaiomehaaGreatDoor.U Go.Proofs.YtnegfigaiomehaaGreatDoor.PTh
def rightL (l : List UInt8) : Bool := decide (cleanL l = (l, 0))
set_option maxRecDepth 100000 in
set_option maxHeartbeats 2000000 in
theorem pred_any (l : List UInt8) (w : World) :
  Calls Tryz.prog 94 #[.string (B l)] w fun e w' => e = .returned (.bool (!rightL l)) ∧ Below w.heap.size w w' := by
 have hR := Lib.hid (fun W => path_Right.calls (B l) (rightL l) W (Right_f l))
 go_enter Tryz.func94, Tryz.ntmps94
 go_wp2_with fail
 refine (hR.out _).mono ?_
 rintro e w1 ⟨rfl, hb⟩
 go_wp2_with fail
 go_ret
 exact ⟨rfl, hb⟩
set_option maxRecDepth 100000 in
set_option maxHeartbeats 4000000 in
theorem idx_any (g cap : Nat) (xs : List (List UInt8)) (w : World) (hc : ∀ j (h : j < xs.length), w.cell? ⟨g, j, none⟩ = some (.string (B xs[j]))) (hg : g < w.heap.size) (hn : xs.length < 1000000) :
  Calls Tryz.prog 55 #[.slice (some ⟨g, 0, none⟩) xs.length cap, .func (.func 94) #[] #[]] w fun e w' =>
   ∃ k : Int, e = .returned (.int .i64 k) ∧ decide (0 ≤ k) = (!xs.all rightL) ∧ Below w.heap.size w w' := by
 obtain ⟨N, hN⟩ : ∃ N, xs.length = N := ⟨_, rfl⟩
 have hcH := Lib.hid hc
 clear hc
 rw [hN] at hn ⊢
 go_enter Tryz.func55, Tryz.ntmps55
 go_wp2_with fail
 go_loopg [8] N (fun gk s8 wr => ∃ i : Nat, s8 = .int .i64 (i : Int) ∧ i + gk = N ∧ Hid ((xs.take i).all rightL = true) ∧ Hid (Below w.heap.size w wr))
 case atStart => exact ⟨0, rfl, Nat.zero_add _, rfl, Below.refl _ _⟩
 case round =>
  obtain ⟨i, rfl, hik, hA, hB⟩ := hrel
  cases gk with
  | zero =>
   obtain rfl : i = N := by omega
   have hlt : decide ((i : Int) < (i : Int)) = false := by simp
   go_wp2_with fail
   go_ret
   refine ⟨_, rfl, ?_, hB.out⟩
   have := hA.out
   rw [← hN, List.take_length] at this
   rw [this]; rfl
  | succ gk =>
   have hiN : i < xs.length := by omega
   have hlt : decide ((i : Int) < (N : Int)) = true := by rw [decide_eq_true_iff]; omega
   obtain ⟨x, hx⟩ : ∃ x, xs[i] = x := ⟨_, rfl⟩
   have hcell : wr.cell? ⟨g, i, none⟩ = some (.string (B x)) := by
    rw [hB.out.cell (p := ⟨g, i, none⟩) hg, hcH.out i hiN, hx]
   have hP := Lib.hid (fun W => pred_any x W)
   have htake : xs.take (i + 1) = xs.take i ++ [x] := by rw [List.take_succ_eq_append_getElem hiN, hx]
   go_wp2_with fail
   refine (hP.out _).mono ?_
   rintro e w2 ⟨rfl, hb2⟩
   have hB2 := Lib.hid (hB.out.trans (hb2.mono hB.out.size))
   clear hb2
   cases hr : rightL x with
   | false =>
    go_wp2_with fail
    go_ret
    refine ⟨_, rfl, ?_, hB2.out⟩
    have : xs.all rightL = false := by
     rw [← List.take_append_drop (i + 1) xs, List.all_append, htake, List.all_append]; simp [hr]
    rw [this]
    simp
   | true =>
    have hA2 : Hid ((xs.take (i + 1)).all rightL = true) := by
     show _ = _
     rw [htake, List.all_append, hA.out]; simp [hr]
    go_wp2_with fail
    go_roundg gk
    case measure => omega
    case rel => exact ⟨i + 1, by first | rfl | simp, by omega, hA2, hB2⟩
set_option maxRecDepth 100000 in
set_option maxHeartbeats 2000000 in
theorem contains_any (g cap : Nat) (xs : List (List UInt8)) (w : World) (hc : ∀ j (h : j < xs.length), w.cell? ⟨g, j, none⟩ = some (.string (B xs[j]))) (hg : g < w.heap.size) (hn : xs.length < 1000000) :
  Calls Tryz.prog 21 #[.slice (some ⟨g, 0, none⟩) xs.length cap, .func (.func 94) #[] #[]] w fun e w' =>
   e = .returned (.bool (!xs.all rightL)) ∧ Below w.heap.size w w' := by
 have hI := Lib.hid (idx_any g cap xs w hc hg hn)
 generalize xs.all rightL = r at *
 clear hc
 go_enter Tryz.func21, Tryz.ntmps21
 go_wp2_with fail
 refine hI.out.mono ?_
 rintro e w1 ⟨k, rfl, hk, hb⟩
 go_wp2_with fail
 go_ret
 exact ⟨rfl, hb⟩
def joinS (ps : List (List UInt8)) : List UInt8 := [32].intercalate ps
theorem joinS_len (ps : List (List UInt8)) : (joinS ps).length ≤ totalP ps + ps.length := by
 unfold joinS
 induction ps with
 | nil => simp [totalP, List.intercalate]
 | cons p ps ih =>
  cases ps with
  | nil => simp [totalP, List.intercalate, List.intersperse]
  | cons q ps =>
   simp only [List.intercalate, List.intersperse, List.flatten_cons, List.length_append, List.length_cons, List.length_nil, totalP, List.map_cons, List.sum_cons] at ih ⊢
   omega
theorem join_sp (bs : Nat) (v : Value) (ps : List (List UInt8)) (W : World) (ho : W.ownsRow bs 9 1 v ps.length (ps.map fun x => Value.string (B x))) (hl : totalP ps + ps.length ≤ 1000000) :
  Calls Tryz.prog 96 #[v, .string ⟨#[32]⟩] W fun e w' => e = .returned (.string (B (joinS ps))) ∧ Below W.heap.size W w' := by
 by_cases h0 : ps = []
 ·subst h0
  obtain ⟨A0, c0, rfl⟩ := own_slice ho
  exact (Tryz.strings_Join_none A0 c0 ⟨#[32]⟩ W).mono fun e w' ⟨he, hw⟩ => ⟨he, hw ▸ Below.refl _ _⟩
 ·have hpos := List.length_pos_iff.2 h0
  have ho' := ho
  rcases ho.2 with ⟨_, hz⟩ | ⟨g, cap, cur, rfl, _, hh, hcap1, hcap2, _⟩
  ·omega
  have hj : (ps.map B).map (fun x => x.data.toList) = ps := by simp [Function.comp_def]
  have := Tryz.strings_Join g 0 cap (ps.map B) ⟨#[32]⟩ W (fun j x hx => by
   have hj : j < ps.length := by have := (List.getElem?_eq_some_iff.1 hx).1; simpa using this
   have hc := ho'.cellAt j (by omega)
   rw [Nat.zero_add, hc]
   simp [List.getElem?_eq_getElem hj] at hx ⊢
   exact hx) (lt_of_block hh) (by simp; omega) (by simp; omega) (by
    rw [hj]; have := joinS_len ps; show (joinS ps).length ≤ _; omega)
  rw [hj, List.length_map] at this
  exact this
def printL (out : List UInt8) (xs : List (List UInt8)) : List UInt8 × Int := if (out :: xs).all rightL = true then (joinS ((out ++ [58]) :: xs) ++ [10], 0) else ([], 5)
theorem right_len {l : List UInt8} (h : rightL l = true) : l.length ≤ 100 := by
 have h' : cleanL l = (l, 0) := of_decide_eq_true h
 obtain ⟨ps, hi⟩ := clean_is h'
 exact hi.len
theorem total_right (xs : List (List UInt8)) (h : xs.all rightL = true) : totalP xs ≤ 100 * xs.length := by
 induction xs with
 | nil => simp [totalP]
 | cons x xs ih =>
  rw [List.all_cons, Bool.and_eq_true] at h
  have := right_len h.1
  have := ih h.2
  simp only [totalP, List.map_cons, List.sum_cons, List.length_cons] at this ⊢
  omega
theorem own_one (w : World) (x : ByteArray) : (w.alloc (.cells #[.string x] 9)).ownsRow w.heap.size 9 1 (.slice (some ⟨w.heap.size, 0, none⟩) 1 1) 1 [.string x] := by
 have := World.ownsRow_lit (base := w.heap.size) (e := 9) (size := 1) w #[.string x] 1 (Nat.le_refl _) (by unfold maxLen; omega) rfl
 simpa using this
set_option maxRecDepth 100000 in
set_option maxHeartbeats 4000000 in
theorem Print_any (out : List UInt8) (A : Option Addr) (c : Nat) (xs : List (List UInt8)) (w : World) (hr : Kd.C Kd.string w A xs.length (xs.map B)) (hn : xs.length ≤ 1000) :
  Calls Tryz.prog 66 #[.string (B out), .slice A xs.length c] w fun e w' =>
   e = .returned (.tuple #[.string (B (printL out xs).1), .int .i64 (printL out xs).2]) ∧ Below w.heap.size w w' := by
 have hO := own_one w (B out)
 have hC := Lib.hid (Kd.C_below hr ((Below.refl w.heap.size w).alloc (Nat.le_refl _) (.cells #[.string (B out)] 9)))
 obtain ⟨n, hnn⟩ : ∃ n, xs.length = n := ⟨_, rfl⟩
 rw [hnn] at hC hn
 clear hr
 rw [hnn]
 have hOH := Lib.hid hO
 clear hO
 go_enter Tryz.func66, Tryz.ntmps66
 go_wp2_with (at_builtin; refine Kd.R_append_row (w0 := w) Value.string ByteArray.empty (h1 := fun _ => rfl) w.heap.size rfl _ _ 23 9 (.string ⟨#[]⟩) 16 rfl Tryz.underlying23 infoStr rfl (by decide) _ [B out] (xs.map B) A n c (fun _ => True) rfl rfl (fun _ _ => trivial) (Kd.R_of_own hOH.out (fun _ _ => trivial)) hC.out ((Below.refl w.heap.size w).alloc (Nat.le_refl _) _) ?r1 ?r2 ?_)
 case r1 => simp
 case r2 => simp; omega
 intro v1 w1 hR hb1 _ _
 have hR' : Kd.R Kd.string 9 w1 w.heap.size (fun _ => True) v1 ((out :: xs).map B) := hR
 clear hR hOH hC
 have hl1 : (out :: xs).length = n + 1 := by simp [hnn]
 have hlen : ((out :: xs).map B).length = n + 1 := by rw [List.length_map, hl1]
 obtain ⟨g, cap, rfl, hg0, hg1, _⟩ := Kd.R_form hR' (by rw [hlen]; omega)
 rw [hlen] at hR' ⊢
 have hcells : ∀ j (h : j < (out :: xs).length), w1.cell? ⟨g, j, none⟩ = some (.string (B (out :: xs)[j])) := by
  intro j hj
  have h := (Kd.R_celln ByteArray.empty hR' (j : Int) (by omega) (by omega)).1
  rw [rdOf_B _ _ (by rw [hlen]; omega)] at h
  simp only [List.getElem_map, Int.toNat_natCast] at h
  exact h
 have hCon := Lib.hid (contains_any g cap (out :: xs) w1 hcells hg1 (by omega))
 rw [hl1] at hCon
 have hRH := Lib.hid hR'
 have hPL : Hid (printL out xs = if (out :: xs).all rightL = true then (joinS ((out ++ [58]) :: xs) ++ [10], 0) else ([], 5)) := rfl
 clear hcells hR'
 cases hall : (out :: xs).all rightL with
 | false =>
  rw [hall] at hCon
  have hres : printL out xs = ([], 5) := by rw [hPL.out, hall]; rfl
  go_wp2_with fail
  refine hCon.out.mono ?_
  rintro e w2 ⟨rfl, hb2⟩
  have hB2 := Lib.hid (hb1.trans (hb2.mono hb1.size))
  clear hb2
  go_wp2_with fail
  rw [hres]
  go_ret2
  exact ⟨rfl, hB2.out⟩
 | true =>
  rw [hall] at hCon
  have hres : printL out xs = (joinS ((out ++ [58]) :: xs) ++ [10], 0) := by rw [hPL.out, hall]; rfl
  have ha := hall
  rw [List.all_cons, Bool.and_eq_true] at ha
  have ho := right_len ha.1
  have ht := total_right xs ha.2
  have so : (B out).size = out.length := size_B out
  go_wp2_with fail
  refine hCon.out.mono ?_
  rintro e w2 ⟨rfl, hb2⟩
  have hB2 := Lib.hid (hb1.trans (hb2.mono hb1.size))
  have hR2 := Lib.hid (Kd.R_below hRH.out hb2)
  have hg2 := hb2.size
  clear hb2
  have hcf := Kd.R_celln ByteArray.empty hR2.out 0 (by omega) (by omega)
  have c0 : w2.cell? ⟨g, 0, none⟩ = some (.string (B out)) := hcf.1
  have f0 : w2.frozen? ⟨g, 0, none⟩ = false := hcf.2
  clear hcf
  have hR3 := Lib.hid (Kd.R_putn hR2.out 0 (B (out ++ [58])))
  have hB3 := Lib.hid (hB2.out.setCell (p := ⟨g, 0, none⟩) hg0 (.string (B (out ++ [58]))))
  have hJ : ∀ w3 : World, w2.setCell ⟨g, 0, none⟩ (.string (B (out ++ [58]))) = w3 → Calls Tryz.prog 96 #[.slice (some ⟨g, 0, none⟩) (n + 1) cap, .string ⟨#[32]⟩] w3 fun e w' => e = .returned (.string (B (joinS ((out ++ [58]) :: xs)))) ∧ Below w3.heap.size w3 w' := by
   rintro w3 rfl
   have := Kd.own_of_R hR3.out
   refine join_sp w.heap.size _ ((out ++ [58]) :: xs) _ ?_ ?_
   ·simpa [encs, Function.comp_def, hnn] using this
   ·simp only [totalP, List.map_cons, List.sum_cons, List.length_append, List.length_cons, List.length_nil] at ht ⊢
    omega
  have hJH := Lib.hid hJ
  have hjl : (joinS ((out ++ [58]) :: xs)).length ≤ 1000000 := by
   have := joinS_len ((out ++ [58]) :: xs)
   simp only [totalP, List.map_cons, List.sum_cons, List.length_append, List.length_cons, List.length_nil] at ht this
   omega
  have sj : (B (joinS ((out ++ [58]) :: xs))).size = (joinS ((out ++ [58]) :: xs)).length := size_B _
  have e58 : B out ++ (⟨#[58]⟩ : ByteArray) = B (out ++ [58]) := B_append out [58]
  clear hJ
  go_wp2_with fail
  refine (hJH.out _ (by first | rfl | rw [e58])).mono ?_
  rintro e w4 ⟨rfl, hb4⟩
  have hB4 := Lib.hid (hB3.out.trans (hb4.mono hB3.out.size))
  clear hb4
  go_wp2_with fail
  rw [hres]
  go_ret2
  refine ⟨?_, hB4.out⟩
  have ef : B (joinS ((out ++ [58]) :: xs)) ++ (⟨#[10]⟩ : ByteArray) = B (joinS ((out ++ [58]) :: xs) ++ [10]) := B_append _ [10]
  show Ending.returned (.tuple #[.string (B (joinS ((out ++ [58]) :: xs)) ++ (⟨#[10]⟩ : ByteArray)), .int .i64 0]) = _
  rw [ef]
def depfile_Print.f (a0 : ByteArray) (l1 : List ByteArray) : Option (ByteArray × Int) :=
 if l1.length ≤ 1000 then some (B (printL a0.data.toList (l1.map fun x => x.data.toList)).1, (printL a0.data.toList (l1.map fun x => x.data.toList)).2) else none
theorem depfile_Print.calls (a0 : ByteArray) (A1 : Option Addr) (c1 : Nat) (l1 : List ByteArray) (r1 : ByteArray) (r2 : Int) (w : World) (hr1 : Kd.C Kd.string w A1 l1.length l1) (hc1 : l1.length ≤ c1) (h : depfile_Print.f a0 l1 = some (r1, r2)) :
  Calls Tryz.prog 66 #[.string a0, .slice A1 l1.length c1] w fun e w' => e = .returned (.tuple #[.string r1, .int .i64 r2]) ∧ Below w.heap.size w w' := by
 unfold depfile_Print.f at h
 split at h
 case isFalse => cases h
 rename_i hn
 have h' := Option.some.inj h
 have e1 : B (printL a0.data.toList (l1.map fun x => x.data.toList)).1 = r1 := congrArg Prod.fst h'
 have e2 : (printL a0.data.toList (l1.map fun x => x.data.toList)).2 = r2 := congrArg Prod.snd h'
 have em : (l1.map fun x => x.data.toList).map B = l1 := by
  rw [List.map_map]
  conv => rhs; rw [← List.map_id l1]
  exact List.map_congr_left fun x _ => (B_of x).symm
 have := Print_any a0.data.toList A1 c1 (l1.map fun x => x.data.toList) w (by rw [em, List.length_map]; exact hr1) (by rw [List.length_map]; exact hn)
 rw [List.length_map, ← B_of] at this
 rw [← e1, ← e2]
 exact this
end Go.Proofs.YtnegfigaiomehaaGreatDoor.P
end
section
namespace Go.Proofs.YtnegfigaiomehaaGreatDoor.Ck
open Go.RowKit Go.Lib Go.Shelf Go.Proofs.YtnegfigaiomehaaGreatDoor.U Go.Proofs.YtnegfigaiomehaaGreatDoor.P Go.Proofs.YtnegfigaiomehaaGreatDoor.MapV
open Go.Proofs.YtnegfigaiomehaaGreatDoor.Fld (fieldsT)
structure DishL where
 outs : List FileL
 once : Bool
 dep : Txt
 deps : Txt
deriving DecidableEq
def kCat : Txt := [99, 97, 116]
def kRev : Txt := [114, 101, 118]
def kSum : Txt := [115, 117, 109]
def kPut : Txt := [112, 117, 116]
def kInc : Txt := [105, 110, 99]
def kFail : Txt := [102, 97, 105, 108]
def kOnce : Txt := [111, 110, 99, 101]
def kInclude : Txt := [35, 105, 110, 99, 108, 117, 100, 101, 32]
structure Env where
 decl : List Txt
 fs : List FileL
def argE (v : Env) (nm : Txt) : Option Txt := match findL v.fs nm with
 | some b => if nm ∈ v.decl then some b else none
 | none => none
def allE (v : Env) : Txt → List Txt → Option Txt
 | out, [] => some out
 | out, a :: rs => match argE v a with
  | none => none
  | some b => if (out ++ b).length ≤ 131072 then allE v (out ++ b) rs else none
def oneE (v : Env) (args : List Txt) : Option Txt := match args with
 | [a] => argE v a
 | _ => none
def gatherE (v : Env) : Txt → List Txt → Option Txt
 | out, [] => some out
 | out, a :: rs => match argE v a with
  | none => none
  | some b => gatherE v (out ++ b) rs
def hexDigit (d : Nat) : UInt8 := if d < 10 then UInt8.ofNat (48 + d) else UInt8.ofNat (87 + d)
def hexL : Nat → Nat → Txt
 | 0, _ => []
 | k + 1, n => hexL k (n / 16) ++ [hexDigit (n % 16)]
def hashGo (h : Nat) : Txt → Nat
 | [] => h
 | c :: l => hashGo (((Nat.xor h c.toNat) * 1099511628211) % 18446744073709551616) l
def hashL (l : Txt) : Nat := hashGo 14695981039346656037 l
def sumE (v : Env) (args : List Txt) : Option Txt := if args = [] then none else (gatherE v [] args).map fun b => hexL 16 (hashL b) ++ [10]
def putL (args : List Txt) : Txt := [32].intercalate args ++ [10]
def trimNL (l : Txt) : Txt := if l.getLast? = some 10 then l.dropLast else l
def inclL (l : Txt) : Option Txt := if kInclude.isPrefixOf (trimNL l) then some ((trimNL l).drop 9) else none
structure PS where
 out : Txt
 found : List Txt
 many : Nat
def addF (l : List Txt) (nm : Txt) : List Txt := if nm ∈ l then l else l ++ [nm]
def linesP (fs : List FileL) (rec_ : PS → Txt → Option PS) : List Txt → PS → Option PS
 | [], s => some s
 | l :: ls, s => match inclL l with
  | none => if (s.out ++ l).length ≤ 65536 then linesP fs rec_ ls { s with out := s.out ++ l } else none
  | some nm => match findL fs nm with
   | none => none
   | some own => if rightL nm = true ∧ s.many + 1 ≤ 1000 then
     match rec_ ⟨s.out, addF s.found nm, s.many + 1⟩ own with
     | none => none
     | some s' => linesP fs rec_ ls s'
    else none
def putsE (fs : List FileL) : Nat → PS → Txt → Option PS
 | 0, _, _ => none
 | k + 1, s, b => linesP fs (putsE fs k) (splitK 10 1 b) s
def incE (v : Env) (args : List Txt) : Option PS := match oneE v args with
 | none => none
 | some b => putsE v.fs 11 ⟨[], [], 0⟩ b
def verbB (w : Txt) : Bool := w == kCat || w == kRev || w == kSum || w == kPut || w == kInc || w == kFail
def doE (v : Env) (verb : Txt) (args : List Txt) : Option (Txt × List Txt) :=
 if verb = kCat then (allE v [] args).map fun b => (b, [])
 else if verb = kRev then (oneE v args).map fun b => (b.reverse, [])
 else if verb = kSum then (sumE v args).map fun b => (b, [])
 else if verb = kPut then some (putL args, [])
 else if verb = kInc then (incE v args).map fun s => (s.out, s.found)
 else none
def namesOk : List Txt → List Txt → Bool
 | _, [] => true
 | pre, w :: ws => rightL w && !(pre.contains w) && namesOk (pre ++ [w]) ws
def outputsE (ws : List Txt) : Option (List Txt × Txt) :=
 match ws.findIdx? (· == [58]) with
 | some k => if k + 2 = ws.length ∧ rightL (ws.getD (k + 1) []) = true then
   (if namesOk [] (ws.take k) = true ∧ 0 < k then some (ws.take k, ws.getD (k + 1) []) else none) else none
 | none => if namesOk [] ws = true ∧ ws ≠ [] then some (ws, []) else none
structure ShapeL where
 verb : Txt
 args : List Txt
 once : Bool
 outs : List Txt
 dep : Txt
def shapeW (once : Bool) (ws : List Txt) : Option ShapeL :=
 match ws.findIdx? (· == [62]) with
 | none => none
 | some 0 => none
 | some (k + 1) => if verbB (ws.getD 0 []) = true then
   match outputsE (ws.drop (k + 2)) with
   | none => none
   | some od => if (decide (od.2 ≠ []) == decide (ws.getD 0 [] = kInc)) = true then some ⟨ws.getD 0 [], (ws.take (k + 1)).drop 1, once, od.1, od.2⟩ else none
  else none
def shapeE (command : Txt) : Option ShapeL :=
 match fieldsT command with
 | [] => shapeW false []
 | w :: ws => if w = kOnce then shapeW true ws else shapeW false (w :: ws)
def cookE (command : Txt) (v : Env) : Option DishL :=
 match shapeE command with
 | none => none
 | some s => match doE v s.verb s.args with
  | none => none
  | some (b, found) => if b.length ≤ 65536 then
    some ⟨s.outs.map fun o => ⟨o, b⟩, s.once, s.dep, if s.dep = [] then [] else (printL (s.outs.getD 0 []) found).1⟩ else none
end Go.Proofs.YtnegfigaiomehaaGreatDoor.Ck
end
section
namespace Go.Proofs.YtnegfigaiomehaaGreatDoor.Ck
open Go.RowKit Go.Lib Go.Maps Go.Proofs.YtnegfigaiomehaaGreatDoorW.PrintWords Go.Proofs.YtnegfigaiomehaaGreatDoorW.PrintLast Go.Proofs.YtnegfigaiomehaaGreatDoorW.PrintMore Go.Proofs.YtnegfigaiomehaaGreatDoor.U Go.Proofs.YtnegfigaiomehaaGreatDoor.P Go.Proofs.YtnegfigaiomehaaGreatDoor.MapV
set_option maxRecDepth 100000 in
set_option maxHeartbeats 2000000 in
theorem same_any (f nm : Txt) (v : Value) (p : Nat) (w : World) (hp : w.cell? ⟨p, 0, none⟩ = some (.string (B nm))) (hl : p < w.heap.size) :
  Calls Tryz.prog 53 #[.agg #[.string (B f), v], .pointer (some ⟨p, 0, none⟩)] w fun e w' => e = .returned (.bool (f == nm)) ∧ Below w.heap.size w w' := by
 go_enter Tryz.func53, Tryz.ntmps53
 go_wp2_with fail
 go_ret
 exact ⟨rfl, (Below.refl _ _).alloc (Nat.le_refl _) _⟩
def FirstAt (fs : List FileL) (nm : Txt) (k : Int) : Prop := (k = -1 ∧ ∀ f ∈ fs, f.n ≠ nm) ∨ ∃ (i : Nat) (h : i < fs.length), k = (i : Int) ∧ fs[i].n = nm ∧ ∀ (j : Nat) (hj : j < i), (fs[j]'(by omega)).n ≠ nm
theorem find_first : ∀ (fs : List FileL) (nm : Txt) (i : Nat) (h : i < fs.length), fs[i].n = nm → (∀ (j : Nat) (hj : j < i), (fs[j]'(by omega)).n ≠ nm) → findL fs nm = some fs[i].b
 | [], nm, i, h, _, _ => absurd h (by simp)
 | f :: fs, nm, 0, h, h1, _ => by
  have h1' : f.n = nm := h1
  simp [findL, h1']
 | f :: fs, nm, i + 1, h, h1, h2 => by
  have h0 : f.n ≠ nm := h2 0 (by omega)
  have := find_first fs nm i (by simpa using h) (by simpa using h1) (fun j hj => by have := h2 (j + 1) (by omega); simpa using this)
  simp only [findL, List.find?_cons, beq_eq_false_iff_ne.2 h0] at this ⊢
  simpa using this
theorem find_none (fs : List FileL) (nm : Txt) (h : ∀ f ∈ fs, f.n ≠ nm) : findL fs nm = none := by
 rw [findL, Option.map_eq_none_iff, List.find?_eq_none]
 intro f hf
 simpa using h f hf
set_option maxRecDepth 100000 in
set_option maxHeartbeats 4000000 in
theorem idxf_any (A : Option Addr) (cap : Nat) (fs : List FileL) (nm : Txt) (p : Nat) (w : World) (hp : w.cell? ⟨p, 0, none⟩ = some (.string (B nm))) (hl : p < w.heap.size) (hc : Kd.C KF w A (fs.map toF).length (fs.map toF)) (hn : fs.length < 1000000) :
  Calls Tryz.prog 52 #[.slice A fs.length cap, .func (.func 53) #[] #[.pointer (some ⟨p, 0, none⟩)]] w fun e w' =>
   ∃ k : Int, e = .returned (.int .i64 k) ∧ FirstAt fs nm k ∧ Below w.heap.size w w' := by
 obtain ⟨N, hN⟩ : ∃ N, fs.length = N := ⟨_, rfl⟩
 have hcH := Lib.hid hc
 have hpH := Lib.hid hp
 clear hc hp
 rw [hN] at hn ⊢
 go_enter Tryz.func52, Tryz.ntmps52
 go_wp2_with fail
 go_loopg [8] N (fun gk s8 wr => ∃ i : Nat, s8 = .int .i64 (i : Int) ∧ i + gk = N ∧ Hid (∀ (j : Nat) (hj : j < i) (h : j < fs.length), fs[j].n ≠ nm) ∧ Hid (Below w.heap.size w wr))
 case atStart => exact ⟨0, rfl, Nat.zero_add _, fun j hj => absurd hj (by omega), Below.refl _ _⟩
 case round =>
  obtain ⟨i, rfl, hik, hA, hB⟩ := hrel
  cases gk with
  | zero =>
   obtain rfl : i = N := by omega
   have hlt : decide ((i : Int) < (i : Int)) = false := by simp
   go_wp2_with fail
   go_ret
   refine ⟨_, rfl, .inl ⟨rfl, fun f hf => ?_⟩, hB.out⟩
   obtain ⟨j, hj, rfl⟩ := List.getElem_of_mem hf
   exact hA.out j (by omega) hj
  | succ gk =>
   have hiN : i < fs.length := by omega
   have hlt : decide ((i : Int) < (N : Int)) = true := by rw [decide_eq_true_iff]; omega
   obtain ⟨ad, A1, c1, rfl, k0, k1, l1, g1⟩ := file_at (Kd.C_below hcH.out hB.out) i hiN
   have hP := Lib.hid (fun W hW hl => same_any fs[i].n nm (.slice A1 fs[i].b.length c1) p W hW hl)
   have hpr : wr.cell? ⟨p, 0, none⟩ = some (.string (B nm)) := (hB.out.cell (p := ⟨p, 0, none⟩) hl).trans hpH.out
   have hlr : p < wr.heap.size := Nat.lt_of_lt_of_le hl hB.out.size
   have hE := Lib.hid (fun h : fs[i].n = nm => (h : fs[i].n = nm))
   obtain ⟨nm1, hnm1⟩ : ∃ x, fs[i].n = x := ⟨_, rfl⟩
   have hNM := Lib.hid hnm1
   rw [hnm1] at k0 hP
   clear g1 hnm1
   go_wp2_with fail
   refine (hP.out _ hpr hlr).mono ?_
   rintro e w2 ⟨rfl, hb2⟩
   have hB2 := Lib.hid (hB.out.trans (hb2.mono hB.out.size))
   clear hb2
   cases hr : (nm1 == nm) with
   | true =>
    go_wp2_with fail
    go_ret
    refine ⟨_, rfl, .inr ⟨i, hiN, rfl, by rw [hNM.out]; exact beq_iff_eq.1 hr, fun j hj => hA.out j hj (by omega)⟩, hB2.out⟩
   | false =>
    have hA2 : Hid (∀ (j : Nat) (hj : j < i + 1) (h : j < fs.length), fs[j].n ≠ nm) := by
     intro j hj h
     rcases Nat.lt_or_ge j i with h1 | h1
     ·exact hA.out j h1 h
     ·obtain rfl : j = i := by omega
      rw [hNM.out]; exact beq_eq_false_iff_ne.1 hr
    go_wp2_with fail
    go_roundg gk
    case measure => omega
    case rel => exact ⟨i + 1, by first | rfl | simp, by omega, hA2, hB2⟩
def bcells (b : Txt) : List Value := b.map fun c => Value.int .u8 (c.toNat : Int)
theorem bcells_len (b : Txt) : (bcells b).length = b.length := List.length_map ..
theorem bcells_append (a b : Txt) : bcells (a ++ b) = bcells a ++ bcells b := List.map_append ..
theorem byte_cell {w : World} {ad : Addr} {b : Txt} (h : (Kd.int .u8).C w (some ad) b.length (ints b)) (j : Nat) (u : Value) (hj : (bcells b)[j]? = some u) : w.cell? (ad.add j) = some u := by
 have hj' : j < b.length := by have := (List.getElem?_eq_some_iff.1 hj).1; rwa [bcells_len] at this
 obtain ⟨ad', c, e, _, hK, hc0⟩ := Kd.C_get (d := Kd.int .u8) (n := b.length) h 0 (j : Int) (by omega) (by omega)
 obtain rfl : ad = ad' := by injection e
 have hx : (ints b).getD (j : Int).toNat 0 = ((b[j].toNat : Nat) : Int) := by
  rw [Int.toNat_natCast, List.getD_eq_getElem?_getD, ints, List.getElem?_map, List.getElem?_eq_getElem hj']; rfl
 rw [hx] at hK
 have hK' : c = [.int .u8 ((b[j].toNat : Nat) : Int)] := hK
 subst hK'
 have := hc0 0 _ rfl
 rw [show (j : Int).toNat * (Kd.int .u8).sz + 0 = j by show (j : Int).toNat * 1 + 0 = j; omega] at this
 rw [this]
 rw [bcells, List.getElem?_map, List.getElem?_eq_getElem hj'] at hj
 exact hj
theorem run_clone_nil (w : World) (a : Option Addr) (n c n' c' : Nat) : (binOp .eql 37 (.slice a n c) (.slice none n' c')).run Tryz.prog w = .ok (.bool a.isNone) w := Lib.run_eql_slice_nil w _ _ a n c n' c' Tryz.underlying37
set_option maxRecDepth 100000 in
set_option maxHeartbeats 4000000 in
theorem clone_any (A : Option Addr) (c : Nat) (b : Txt) (w : World) (hc : (Kd.int .u8).C w A b.length (ints b)) (hl : b.length ≤ 1000000) :
  Calls Tryz.prog 54 #[.slice A b.length c] w fun e w' => ∃ v, e = .returned v ∧ w'.ownsRow w.heap.size 5 1 v b.length (bcells b) ∧ Below w.heap.size w w' := by
 have hq := run_clone_nil
 have hcH := Lib.hid hc
 clear hc
 obtain ⟨N, hN⟩ : ∃ N, b.length = N := ⟨_, rfl⟩
 have hNH := Lib.hid hN
 rw [hN] at hl ⊢
 cases A with
 | none =>
  have hz : Hid (b = []) := by
   rcases Nat.eq_zero_or_pos b.length with h | h
   ·exact List.length_eq_zero_iff.1 h
   ·obtain ⟨ad, he, _⟩ := hcH.out.2.2 h
    cases he
  clear hN
  go_enter Tryz.func54, Tryz.ntmps54
  go_wp2_with fail
  go_ret
  have h0 : N = 0 := by rw [← hNH.out, hz.out]; rfl
  rw [h0, hz.out]
  exact ⟨_, rfl, World.ownsRow_nil _ _ _ _, Below.refl _ _⟩
 | some ad =>
  clear hN
  go_enter Tryz.func54, Tryz.ntmps54
  obtain ⟨i0, hi, hz0, hz1, hz2⟩ := info_parts info5
  go_wp2_with (at_builtin; refine wpList_append_own _ rfl _ _ 37 rfl w.heap.size 5 i0 (.int .u8 0) 1 1 Tryz.underlying37 hi hz0 hz1 hz2 rfl (by decide) _ _ _ rfl (World.ownsRow_made w #[] 0 (Nat.le_refl _) (Nat.zero_le _) rfl) ad N c (bcells b) rfl ?qc1 ?qc2 ?qc3 ?qc4 ?qc5 ?qc6 ?_)
  case qc1 => rw [bcells_len]; have := hNH.out; omega
  case qc2 =>
   intro j u hj
   refine Lib.cell?_alloc_some _ ?_
   exact byte_cell hcH.out j u hj
  case qc3 => intro u hu; obtain ⟨x, _, rfl⟩ := List.mem_map.1 hu; rfl
  case qc4 => unfold maxLen; omega
  case qc5 => omega
  case qc6 => simp
  intro v' w1 hown hgrow hnil
  go_wp2_with fail
  go_ret
  refine ⟨v', rfl, by simpa using hown, ?_⟩
  exact ((Below.refl _ w).alloc (Nat.le_refl _) _).grown hgrow (by simp) (by intro k hk; simp [Value.ownBlock] at hk; omega)
def Finds (r : Option Txt) (w : World) (e : Ending) (w' : World) : Prop := Below w.heap.size w w' ∧ match r with
 | none => e = .returned (.tuple #[.slice none 0 0, .bool false])
 | some b => ∃ v, e = .returned (.tuple #[v, .bool true]) ∧ w'.ownsRow w.heap.size 5 1 v b.length (bcells b)
theorem Finds.no {fs : List FileL} {nm : Txt} {w w' : World} (h : ∀ f ∈ fs, f.n ≠ nm) (hb : Below w.heap.size w w') : Finds (findL fs nm) w (.returned (.tuple #[.slice none 0 0, .bool false])) w' := by
 rw [find_none fs nm h]; exact ⟨hb, rfl⟩
theorem Finds.yes {fs : List FileL} {nm : Txt} {w w' : World} {v : Value} (i : Nat) (h : i < fs.length) (h1 : fs[i].n = nm) (h2 : ∀ (j : Nat) (hj : j < i), (fs[j]'(by omega)).n ≠ nm) (hb : Below w.heap.size w w')
  (ho : w'.ownsRow w.heap.size 5 1 v fs[i].b.length (bcells fs[i].b)) : Finds (findL fs nm) w (.returned (.tuple #[v, .bool true])) w' := by
 rw [find_first fs nm i h h1 h2]; exact ⟨hb, v, rfl, ho⟩
theorem own_lower {w : World} {b b' : Nat} {e size n : Nat} {v : Value} {xs : List Value} (h : w.ownsRow b e size v n xs) (hb : b' ≤ b) : w.ownsRow b' e size v n xs := own_weaken h hb
set_option maxRecDepth 100000 in
set_option maxHeartbeats 4000000 in
theorem Find_any (A : Option Addr) (cap : Nat) (fs : List FileL) (nm : Txt) (w : World) (hc : Kd.C KF w A (fs.map toF).length (fs.map toF)) (hn : fs.length < 1000000) (hl : ∀ f ∈ fs, f.b.length ≤ 1000000) :
  Calls Tryz.prog 20 #[.slice A fs.length cap, .string (B nm)] w (Finds (findL fs nm) w) := by
 have hcH := Lib.hid hc
 have hlH := Lib.hid hl
 have hmf : ∀ (fn : Fn) (first cap : Array Value) (w : World), (Instr.makeFunc fn first cap).run Tryz.prog w = .ok (.func fn first cap) w := fun _ _ _ _ => rfl
 clear hc hl
 go_enter Tryz.func20, Tryz.ntmps20
 go_wp2_with fail
 have hB0 : Below w.heap.size w (w.alloc (.cells #[.string (B nm)] 9)) := (Below.refl _ _).alloc (Nat.le_refl _) _
 have hx : (w.alloc (.cells #[.string (B nm)] 9)).heap[w.heap.size]? = some (.cells #[.string (B nm)] 9 (0, 0)) := heap_alloc_new _ _
 refine (idxf_any A cap fs nm w.heap.size _ ((cell_of_heap (j := 0) hx).trans rfl) (by simp) (Kd.C_below hcH.out hB0) hn).mono ?_
 rintro e w1 ⟨k, rfl, hk, hb⟩
 have hB1 := Lib.hid (hB0.trans (hb.mono hB0.size))
 clear hb hx hB0
 rcases hk with ⟨rfl, hk⟩ | ⟨i, hi, rfl, h1, h2⟩
 ·have hkH := Lib.hid hk
  clear hk
  go_wp2_with fail
  go_ret2
  exact Finds.no hkH.out hB1.out
 ·have hlt : decide ((i : Int) < 0) = false := by rw [decide_eq_false_iff_not]; omega
  obtain ⟨ad, A1, c1, rfl, k0, k1, l1, g1⟩ := file_at (Kd.C_below hcH.out hB1.out) i hi
  have hCl := Lib.hid (clone_any A1 c1 fs[i].b w1 g1 (hlH.out _ (List.getElem_mem hi)))
  have h2H := Lib.hid h2
  have h1H := Lib.hid h1
  obtain ⟨n1, hn1⟩ : ∃ x, fs[i].b.length = x := ⟨_, rfl⟩
  have hN1 := Lib.hid hn1
  rw [hn1] at k1 hCl
  clear g1 h1 h2 k0 l1 hn1
  go_wp2_with fail
  refine hCl.out.mono ?_
  rintro e w2 ⟨v, rfl, ho, hb⟩
  have hB2 := Lib.hid (hB1.out.trans (hb.mono hB1.out.size))
  have ho2 := Lib.hid (own_lower ho hB1.out.size)
  clear ho hb
  go_wp2_with fail
  go_ret2
  refine Finds.yes i hi h1H.out h2H.out hB2.out ?_
  rw [hN1.out]; exact ho2.out
end Go.Proofs.YtnegfigaiomehaaGreatDoor.Ck
end
section
namespace Go.Proofs.YtnegfigaiomehaaGreatDoor.Ck
open Go.RowKit Go.Lib Go.Shelf Go.Maps Go.Proofs.YtnegfigaiomehaaGreatDoorW.PrintWords Go.Proofs.YtnegfigaiomehaaGreatDoorW.PrintLast Go.Proofs.YtnegfigaiomehaaGreatDoorW.PrintMore Go.Proofs.YtnegfigaiomehaaGreatDoor.U Go.Proofs.YtnegfigaiomehaaGreatDoor.P Go.Proofs.YtnegfigaiomehaaGreatDoor.PTh Go.Proofs.YtnegfigaiomehaaGreatDoor.MapV
open Go.Proofs.YtnegfigaiomehaaGreatDoor.Fld (fieldsT)
def IdxAt (ws : List Txt) (x : Txt) (k : Int) : Prop := (k = -1 ∧ ws.findIdx? (· == x) = none) ∨ ∃ i : Nat, k = (i : Int) ∧ i < ws.length ∧ ws.findIdx? (· == x) = some i
set_option maxRecDepth 100000 in
set_option maxHeartbeats 4000000 in
theorem index_any (A : Option Addr) (cap : Nat) (ws : List Txt) (x : Txt) (w : World) (hc : Kd.C Kd.string w A ws.length (ws.map B)) (hn : ws.length < 1000000) :
  Calls Tryz.prog 82 #[.slice A ws.length cap, .string (B x)] w fun e w' => ∃ k : Int, e = .returned (.int .i64 k) ∧ IdxAt ws x k ∧ w' = w := by
 obtain ⟨N, hN⟩ : ∃ N, ws.length = N := ⟨_, rfl⟩
 have hcH := Lib.hid hc
 have hNH := Lib.hid hN
 clear hc
 rw [hN] at hn ⊢
 go_enter Tryz.func82, Tryz.ntmps82
 go_wp2_with fail
 go_loopg [8] N (fun gk s8 wr => ∃ i : Nat, s8 = .int .i64 (i : Int) ∧ i + gk = N ∧ Hid (∀ (j : Nat) (hj : j < i) (h : j < ws.length), ws[j] ≠ x) ∧ wr = w)
 case atStart => exact ⟨0, rfl, Nat.zero_add _, fun j hj => absurd hj (by omega), rfl⟩
 case round =>
  obtain ⟨i, rfl, hik, hA, rfl⟩ := hrel
  cases gk with
  | zero =>
   obtain rfl : i = N := by omega
   have hlt : decide ((i : Int) < (i : Int)) = false := by simp
   go_wp2_with fail
   go_ret
   refine ⟨_, rfl, .inl ⟨rfl, ?_⟩, rfl⟩
   rw [List.findIdx?_eq_none_iff]
   intro y hy
   obtain ⟨j, hj, rfl⟩ := List.getElem_of_mem hy
   exact beq_eq_false_iff_ne.2 (hA.out j (by omega) hj)
  | succ gk =>
   have hiN : i < ws.length := by omega
   have hlt : decide ((i : Int) < (N : Int)) = true := by rw [decide_eq_true_iff]; omega
   obtain ⟨ad, rfl, k0⟩ := text_at hcH.out i hiN
   obtain ⟨y, hy⟩ : ∃ y, ws[i] = y := ⟨_, rfl⟩
   have hY := Lib.hid hy
   rw [hy] at k0
   clear hy
   cases hr : (x == y) with
   | true =>
    go_wp2_with fail
    go_ret
    refine ⟨_, rfl, .inr ⟨i, rfl, hiN, ?_⟩, rfl⟩
    rw [List.findIdx?_eq_some_iff_getElem]
    refine ⟨hiN, by rw [hY.out, beq_iff_eq.1 hr]; simp, fun j hj => ?_⟩
    have := hA.out j hj (by omega)
    simpa using this
   | false =>
    have hA2 : Hid (∀ (j : Nat) (hj : j < i + 1) (h : j < ws.length), ws[j] ≠ x) := by
     intro j hj h
     rcases Nat.lt_or_ge j i with h1 | h1
     ·exact hA.out j h1 h
     ·obtain rfl : j = i := by omega
      rw [hY.out]; exact fun e => beq_eq_false_iff_ne.1 hr e.symm
    go_wp2_with fail
    go_roundg gk
    case measure => omega
    case rel => exact ⟨i + 1, by first | rfl | simp, by omega, hA2, rfl⟩
theorem contains_idx (ws : List Txt) (x : Txt) (k : Int) (h : IdxAt ws x k) : decide (0 ≤ k) = ws.contains x := by
 rw [Bool.eq_iff_iff, decide_eq_true_iff, List.contains_iff_mem]
 rcases h with ⟨rfl, h⟩ | ⟨i, rfl, hi, h⟩
 ·rw [List.findIdx?_eq_none_iff] at h
  constructor
  ·intro h0; omega
  ·intro hm; have := h x hm; simp at this
 ·rw [List.findIdx?_eq_some_iff_getElem] at h
  obtain ⟨h1, h2, _⟩ := h
  constructor
  ·intro _
   have : ws[i] = x := by simpa using h2
   rw [← this]; exact List.getElem_mem _
  ·intro _; omega
set_option maxRecDepth 100000 in
set_option maxHeartbeats 4000000 in
theorem contains_any (A : Option Addr) (cap : Nat) (ws : List Txt) (x : Txt) (w : World) (hc : Kd.C Kd.string w A ws.length (ws.map B)) (hn : ws.length < 1000000) :
  Calls Tryz.prog 58 #[.slice A ws.length cap, .string (B x)] w fun e w' => e = .returned (.bool (ws.contains x)) ∧ w' = w := by
 have hI := Lib.hid (index_any A cap ws x w hc hn)
 have hE := Lib.hid (contains_idx ws x)
 clear hc
 generalize ws.contains x = r at *
 go_enter Tryz.func58, Tryz.ntmps58
 go_wp2_with fail
 refine hI.out.mono ?_
 rintro e w1 ⟨k, rfl, hk, rfl⟩
 have hk2 := hE.out k hk
 clear hk
 go_wp2_with fail
 go_ret
 exact ⟨rfl, rfl⟩
theorem right_any (l : Txt) (w : World) : Calls Tryz.prog 95 #[.string (B l)] w fun e w' => e = .returned (.bool (rightL l)) ∧ Below w.heap.size w w' := path_Right.calls (B l) (rightL l) w (Right_f l)
theorem words_C {w : World} {A : Option Addr} {ws : List Txt} : Kd.C Kd.string w A (ws.map B).length (ws.map B) ↔ Kd.C Kd.string w A ws.length (ws.map B) := by rw [List.length_map]
theorem words_take {w : World} {A : Option Addr} {ws : List Txt} (h : Kd.C Kd.string w A ws.length (ws.map B)) (m : Nat) (hm : m ≤ ws.length) : Kd.C Kd.string w A m ((ws.take m).map B) := by
 have := Kd.C_take (k := Kd.string) (m := m) (words_C.2 h) (by rw [List.length_map]; exact hm)
 rw [← List.map_take, List.length_map, List.length_take, Nat.min_eq_left hm] at this
 exact this
theorem words_drop {w : World} {A : Option Addr} {c : Nat} {ws : List Txt} (h : Kd.C Kd.string w A ws.length (ws.map B)) (hc : ws.length ≤ c) (m : Nat) (hm : m ≤ ws.length) : Kd.C Kd.string w (if c = m then A else A.map (·.add m)) (ws.length - m) ((ws.drop m).map B) := by
 have := Kd.C_drop (k := Kd.string) (m := m) (c := c) (words_C.2 h) (by rw [List.length_map]; exact hm) (by rw [List.length_map]; exact hc)
 rw [← List.map_drop, List.length_map, List.length_drop] at this
 rw [show m * Kd.string.sz = m from Nat.mul_one m] at this
 exact this
end Go.Proofs.YtnegfigaiomehaaGreatDoor.Ck
end
section
namespace Go.Proofs.YtnegfigaiomehaaGreatDoor.Ck
open Go.RowKit Go.Lib Go.Shelf Go.Maps Go.Proofs.YtnegfigaiomehaaGreatDoorW.PrintWords Go.Proofs.YtnegfigaiomehaaGreatDoorW.PrintLast Go.Proofs.YtnegfigaiomehaaGreatDoorW.PrintMore Go.Proofs.YtnegfigaiomehaaGreatDoor.U Go.Proofs.YtnegfigaiomehaaGreatDoor.P Go.Proofs.YtnegfigaiomehaaGreatDoor.PTh Go.Proofs.YtnegfigaiomehaaGreatDoor.MapV
structure CK where
 w0 : World
 Aa : Option Addr
 Ad : Option Addr
 Af : Option Addr
 ca : Nat
 cd : Nat
 cf : Nat
 args : List Txt
 v : Env
structure CK.Ok (K : CK) : Prop where
 ra : Kd.C Kd.string K.w0 K.Aa K.args.length (K.args.map B)
 rd : Kd.C Kd.string K.w0 K.Ad K.v.decl.length (K.v.decl.map B)
 rf : Kd.C KF K.w0 K.Af (K.v.fs.map toF).length (K.v.fs.map toF)
 na : K.args.length ≤ 100000
 nd : K.v.decl.length ≤ 100000
 nf : K.v.fs.length ≤ 100000
 lf : ∀ f ∈ K.v.fs, f.b.length ≤ 100000
 la : ∀ a ∈ K.args, a.length ≤ 100000
 lc : K.args.length ≤ K.ca
structure CK.At (K : CK) (w : World) (vf : Value) (m : Int) : Prop where
 h : w.heap[K.w0.heap.size]? = some (.cells #[.slice K.Aa K.args.length K.ca, .slice K.Ad K.v.decl.length K.cd, .slice K.Af K.v.fs.length K.cf, vf, .int .i64 m] 108 (0, 0))
 b : Below K.w0.heap.size K.w0 w
theorem CK.At.below {K : CK} {w w' : World} {vf : Value} {m : Int} (h : K.At w vf m) (hb : Below w.heap.size w w') : K.At w' vf m :=
 ⟨(hb.block _ (Array.getElem?_eq_some_iff.1 h.h).1).trans h.h, h.b.trans (hb.mono h.b.size)⟩
def Makes (r : Option Txt) (w : World) (e : Ending) (w' : World) : Prop := Below w.heap.size w w' ∧ match r with
 | none => e = fl
 | some b => ∃ v, e = .returned v ∧ w'.ownsRow w.heap.size 5 1 v b.length (bcells b)
theorem Makes.bad {r : Option Txt} {w w' : World} (h : r = none) (hb : Below w.heap.size w w') : Makes r w fl w' := by subst h; exact ⟨hb, rfl⟩
theorem Makes.good {r : Option Txt} {w w' : World} {b : Txt} {v : Value} (h : r = some b) (hb : Below w.heap.size w w') (ho : w'.ownsRow w.heap.size 5 1 v b.length (bcells b)) : Makes r w (.returned v) w' := by subst h; exact ⟨hb, v, rfl, ho⟩
theorem bcells_nums (b : Txt) : bcells b = nums .u8 (ints b) := by simp [bcells, nums, ints]
theorem own_num {w : World} {base : Nat} {v : Value} {b : Txt} : w.ownsRow base 5 1 v b.length (bcells b) ↔ w.ownsRow base 5 1 v (ints b).length (nums .u8 (ints b)) := by rw [bcells_nums, ints_len]
theorem own_reads {w : World} {base : Nat} {v : Value} {b : Txt} (h : w.ownsRow base 5 1 v b.length (bcells b)) : ∃ A c, v = .slice A b.length c ∧ b.length ≤ c ∧ (Kd.int .u8).C w A b.length (ints b) := by
 have h' : w.ownsRow base 5 1 v (ints b).length (encs (Value.int .u8) (ints b)) := by
  have : encs (Value.int .u8) (ints b) = bcells b := by
   induction b with
   | nil => rfl
   | cons x l ih => simp [ints, encs, bcells]
  rw [this, ints_len]; exact h
 have := Kd.R_reads (d := Kd.int .u8) (e := 5) (Kd.R_of_own (ok := fun _ => True) (h1 := fun _ => rfl) h' (fun _ _ => trivial))
 rw [ints_len] at this
 exact this
theorem contains_iff (ws : List Txt) (x : Txt) : ws.contains x = decide (x ∈ ws) := by
 rw [Bool.eq_iff_iff, List.contains_iff_mem, decide_eq_true_iff]
set_option maxRecDepth 100000 in
set_option maxHeartbeats 4000000 in
theorem argument_any (K : CK) (hK : K.Ok) (nm : Txt) (w : World) (vf : Value) (m : Int) (hA : K.At w vf m) :
  Calls Tryz.prog 113 #[at0 K.w0.heap.size, .string (B nm)] w (Makes (argE K.v nm) w) := by
 have hE : Hid (argE K.v nm = match findL K.v.fs nm with
  | some b => if nm ∈ K.v.decl then some b else none
  | none => none) := rfl
 generalize argE K.v nm = R at *
 have hKH := Lib.hid hK
 have hAH := Lib.hid hA
 have c1 := (cell_of_heap (j := 1) hA.h).trans rfl
 have c2 := (cell_of_heap (j := 2) hA.h).trans rfl
 have hcl := (Array.getElem?_eq_some_iff.1 hA.h).1
 have hF := Lib.hid (Find_any K.Af K.cf K.v.fs nm w (Kd.C_below hK.rf hA.b) (by have := hK.nf; omega) (fun f hf => by have := hK.lf f hf; omega))
 obtain ⟨nd, hnd⟩ : ∃ n, K.v.decl.length = n := ⟨_, rfl⟩
 have hND := Lib.hid hnd
 obtain ⟨nf, hnf⟩ : ∃ n, K.v.fs.length = n := ⟨_, rfl⟩
 obtain ⟨cb, hcb⟩ : ∃ n, K.w0.heap.size = n := ⟨_, rfl⟩
 rw [hnd, hcb] at c1
 rw [hnf, hcb] at c2
 rw [hnf] at hF
 rw [hcb] at hcl ⊢
 clear hA hK hnd hnf hcb
 go_enter Tryz.func113, Tryz.ntmps113
 go_wp2_with fail
 refine hF.out.mono ?_
 rintro e w1 ⟨hb, hP⟩
 have hB1 := Lib.hid hb
 have d1 := (below_cell hb c1)
 have hA1 := Lib.hid (hAH.out.below hb)
 clear hb hF c1 c2
 cases hfd : findL K.v.fs nm with
 | none =>
  rw [hfd] at hP
  obtain rfl : e = _ := hP
  go_wp2_with fail
  refine (need_no _).mono ?_
  rintro e w2 ⟨rfl, rfl⟩
  exact ⟨rfl, Makes.bad (by rw [hE.out, hfd]) hB1.out⟩
 | some b =>
  rw [hfd] at hP
  obtain ⟨v, rfl, ho⟩ := hP
  have hoH := Lib.hid ho
  have hC := contains_any K.Ad K.cd K.v.decl nm w1 (Kd.C_below hKH.out.rd hA1.out.b) (by have := hKH.out.nd; omega)
  rw [hND.out, contains_iff] at hC
  have hCH := Lib.hid hC
  clear ho hC
  go_wp2_with fail
  refine hCH.out.mono ?_
  rintro e w2 ⟨rfl, rfl⟩
  by_cases hm : nm ∈ K.v.decl
  ·have hd : decide (nm ∈ K.v.decl) = true := decide_eq_true hm
   go_wp2_with fail
   refine (need_yes _).mono ?_
   rintro e w3 ⟨rfl, rfl⟩
   go_wp2_with fail
   go_ret
   exact Makes.good (by rw [hE.out, hfd]; exact if_pos hm) hB1.out hoH.out
  ·have hd : decide (nm ∈ K.v.decl) = false := decide_eq_false hm
   go_wp2_with fail
   refine (need_no _).mono ?_
   rintro e w3 ⟨rfl, rfl⟩
   exact ⟨rfl, Makes.bad (by rw [hE.out, hfd]; exact if_neg hm) hB1.out⟩
end Go.Proofs.YtnegfigaiomehaaGreatDoor.Ck
end
section
namespace Go.Proofs.YtnegfigaiomehaaGreatDoor.Ck
open Go.RowKit Go.Lib Go.Shelf Go.Maps Go.Proofs.YtnegfigaiomehaaGreatDoorW.PrintWords Go.Proofs.YtnegfigaiomehaaGreatDoorW.PrintLast Go.Proofs.YtnegfigaiomehaaGreatDoorW.PrintMore Go.Proofs.YtnegfigaiomehaaGreatDoor.U Go.Proofs.YtnegfigaiomehaaGreatDoor.P Go.Proofs.YtnegfigaiomehaaGreatDoor.PTh Go.Proofs.YtnegfigaiomehaaGreatDoor.MapV
theorem arg_len {v : Env} {a b : Txt} (h : argE v a = some b) (hl : ∀ f ∈ v.fs, f.b.length ≤ 100000) : b.length ≤ 100000 := by
 unfold argE at h
 split at h
 ·rename_i b' hf
  split at h
  ·injection h with h
   subst h
   rw [findL, Option.map_eq_some_iff] at hf
   obtain ⟨f, hf, rfl⟩ := hf
   exact hl f (List.mem_of_find?_eq_some hf)
  ·cases h
 ·cases h
theorem nums_of {w : World} {base : Nat} {v : Value} {a b : Txt} (h : w.ownsRow base 5 1 v ((ints a).length + (ints b).length) (nums .u8 (ints a ++ ints b))) : w.ownsRow base 5 1 v (a ++ b).length (bcells (a ++ b)) := by
 rw [own_num, ints_append, List.length_append]; exact h
theorem reads_int {w : World} {A : Option Addr} {n : Nat} {b : Txt} (h : (Kd.int .u8).C w A n (ints b)) : ReadsInt w .u8 A n (ints b) := by
 refine ⟨h.1, h.2.1, fun hn => ?_⟩
 obtain ⟨ad, rfl, hc⟩ := h.2.2 hn
 refine ⟨ad, rfl, fun j hj => ?_⟩
 have hl := h.1
 rw [ints_len] at hl
 have hjb : j < b.length := by omega
 have hC : (Kd.int .u8).C w (some ad) b.length (ints b) := by rw [hl]; exact h
 have := byte_cell hC j _ (List.getElem?_eq_getElem (by rw [bcells_len]; exact hjb))
 rw [this]
 simp [bcells, ints, List.getD_eq_getElem?_getD, hjb]
set_option maxRecDepth 100000 in
set_option maxHeartbeats 8000000 in
theorem all_any (K : CK) (hK : K.Ok) (w : World) (vf : Value) (m : Int) (hA : K.At w vf m) :
  Calls Tryz.prog 110 #[at0 K.w0.heap.size] w (Makes (allE K.v [] K.args) w) := by
 obtain ⟨R, hR⟩ : ∃ R, allE K.v [] K.args = R := ⟨_, rfl⟩
 rw [hR]
 have hE0 : Hid (allE K.v [] (K.args.drop 0) = R) := hR
 clear hR
 have hKH := Lib.hid hK
 have hAH := Lib.hid hA
 have c0 := (cell_of_heap (j := 0) hA.h).trans rfl
 have hcl := (Array.getElem?_eq_some_iff.1 hA.h).1
 obtain ⟨n, hn⟩ : ∃ n, K.args.length = n := ⟨_, rfl⟩
 have hNH := Lib.hid hn
 have hnn : n ≤ 100000 := hn ▸ hK.na
 obtain ⟨cb, hcb⟩ : ∃ n, K.w0.heap.size = n := ⟨_, rfl⟩
 have hCB := Lib.hid hcb
 obtain ⟨AA, hAA⟩ : ∃ A, K.Aa = A := ⟨_, rfl⟩
 have hAAH := Lib.hid hAA
 rw [hn, hcb, hAA] at c0
 rw [hcb] at hcl ⊢
 clear hAA
 have hAr := fun W vf m h W' hb => Lib.hid (CK.At.below (K := K) (w := W) (w' := W') (vf := vf) (m := m) h hb)
 clear hA hK hn hcb
 go_enter Tryz.func110, Tryz.ntmps110
 go_wp2_with fail
 go_loopg [3, 11] n (fun gk s3 s11 wr => ∃ (i : Nat) (out : Txt) (A : Option Addr) (c : Nat), s3 = .slice A out.length c ∧ s11 = .int .i64 (i : Int) ∧ i + gk = n ∧ out.length ≤ 131072 ∧ Hid (wr.ownsRow w.heap.size 5 1 (.slice A out.length c) out.length (bcells out)) ∧ Hid (allE K.v out (K.args.drop i) = R) ∧ Hid (Below w.heap.size w wr))
 case atStart => exact ⟨0, [], none, 0, rfl, rfl, Nat.zero_add _, by simp, World.ownsRow_nil _ _ _ _, hE0, Below.refl _ _⟩
 case round =>
  obtain ⟨i, out, A, c, rfl, rfl, hik, hol, hO, hE, hB⟩ := hrel
  cases gk with
  | zero =>
   obtain rfl : i = n := by omega
   have hlt : decide ((i : Int) < (i : Int)) = false := by simp
   go_wp2_with fail
   go_ret
   refine Makes.good ?_ hB.out hO.out
   rw [← hE.out, List.drop_of_length_le (by rw [hNH.out]; omega), allE]
  | succ gk =>
   have hiN : i < K.args.length := by rw [hNH.out]; omega
   have hlt : decide ((i : Int) < (n : Int)) = true := by rw [decide_eq_true_iff]; omega
   have hAi := Lib.hid (hAH.out.below hB.out)
   obtain ⟨ad, hAa, k0⟩ := text_at (Kd.C_below hKH.out.ra hAi.out.b) i hiN
   rw [hAAH.out] at hAa
   obtain ⟨y, hy⟩ : ∃ y, K.args[i] = y := ⟨_, rfl⟩
   have hP := Lib.hid (argument_any K hKH.out y wr vf m hAi.out)
   have hS : Hid (R = match argE K.v y with
    | none => none
    | some b => if (out ++ b).length ≤ 131072 then allE K.v (out ++ b) (K.args.drop (i + 1)) else none) := by
    show R = _
    rw [← hE.out, List.drop_eq_getElem_cons hiN, hy, allE]
    try rfl
   rw [hy] at k0
   rw [hCB.out] at hP
   subst hAa
   clear hy hE
   go_wp2_with fail
   refine hP.out.mono ?_
   rintro e w2 ⟨hb2, hPP⟩
   have hB2 := Lib.hid (hB.out.trans (hb2.mono hB.out.size))
   cases ha : argE K.v y with
   | none =>
    rw [ha] at hPP
    obtain rfl : e = fl := hPP
    exact ⟨rfl, Makes.bad (by rw [hS.out, ha]) hB2.out⟩
   | some b =>
    rw [ha] at hPP
    obtain ⟨v, rfl, ho2⟩ := hPP
    obtain ⟨A2, c2, rfl, hlc, hC2⟩ := own_reads ho2
    have hbl : b.length ≤ 100000 := arg_len ha hKH.out.lf
    have hO2 := Lib.hid (own_move hO.out (w1 := w2) (fun k hk => hb2.block k (own_lt hO.out k hk)))
    have hC2H := Lib.hid hC2
    have hbase : w.heap.size ≤ w2.heap.size := hB2.out.size
    clear ho2 hC2 hb2 hlc
    go_wp2_with (at_builtin; refine print_append_row (w0 := w) w.heap.size rfl _ _ 37 5 .u8 1 rfl Tryz.underlying37 info5 (by decide) _ (ints out) (ints b) A2 b.length c2 rfl rfl (own_num.1 hO2.out) ?hr hB2.out hbase ?hl ?_)
    case hr => exact reads_int hC2H.out
    case hl => rw [ints_len]; omega
    intro v1 w3 hown hB3' hg _
    have hO3 := Lib.hid (nums_of hown)
    have hB3 := Lib.hid hB3'
    obtain ⟨A3, c3, rfl, _, _⟩ := own_reads hO3.out
    clear hown hB3' hg
    by_cases hl3 : (out ++ b).length ≤ 131072
    ·have hd : decide (((out ++ b).length : Int) ≤ 131072) = true := by rw [decide_eq_true_iff]; omega
     have hE3 : Hid (allE K.v (out ++ b) (K.args.drop (i + 1)) = R) := by
      show _ = R
      rw [hS.out, ha]; simp only; rw [if_pos hl3]
     generalize out ++ b = ob at *
     go_wp2_with fail
     refine (need_yes _).mono ?_
     rintro e w4 ⟨rfl, rfl⟩
     go_wp2_with fail
     go_roundg gk
     case measure => omega
     case rel => exact ⟨i + 1, ob, A3, c3, rfl, by first | rfl | simp, by omega, hl3, hO3, hE3, hB3⟩
    ·have hd : decide (((out ++ b).length : Int) ≤ 131072) = false := by rw [decide_eq_false_iff_not]; omega
     have hE3 : Hid (R = none) := by
      show R = _
      rw [hS.out, ha]; simp only; rw [if_neg hl3]
     generalize out ++ b = ob at *
     go_wp2_with fail
     refine (need_no _).mono ?_
     rintro e w4 ⟨rfl, rfl⟩
     exact ⟨rfl, Makes.bad hE3.out hB3.out⟩
set_option maxRecDepth 100000 in
set_option maxHeartbeats 8000000 in
theorem one_any (K : CK) (hK : K.Ok) (w : World) (vf : Value) (m : Int) (hA : K.At w vf m) :
  Calls Tryz.prog 111 #[at0 K.w0.heap.size] w (Makes (oneE K.v K.args) w) := by
 have hKH := Lib.hid hK
 have hAH := Lib.hid hA
 have c0 := (cell_of_heap (j := 0) hA.h).trans rfl
 have hcl := (Array.getElem?_eq_some_iff.1 hA.h).1
 by_cases h1 : K.args.length = 1
 ·obtain ⟨y, hy⟩ : ∃ y, K.args = [y] := by
   rcases ha : K.args with _ | ⟨y, _ | ⟨z, r⟩⟩
   ·rw [ha] at h1; cases h1
   ·exact ⟨y, rfl⟩
   ·rw [ha] at h1; simp at h1
  have hR : Hid (oneE K.v K.args = argE K.v y) := by show _ = _; rw [hy]; rfl
  obtain ⟨ad, hAa, k0⟩ := text_at (Kd.C_below hK.ra hA.b) 0 (by omega)
  have e0 : ad.add 0 = ad := by simp [Addr.add]
  have e1 : K.args[0] = y := by simp [hy]
  rw [e0, e1] at k0
  have hP := Lib.hid (argument_any K hK y w vf m hA)
  have hRH := hR.out
  rw [hRH]
  rw [h1, hAa] at c0
  obtain ⟨cb, hcb⟩ : ∃ n, K.w0.heap.size = n := ⟨_, rfl⟩
  rw [hcb] at c0 hcl hP ⊢
  clear hA hK hcb hRH e1 e0 hAa
  go_enter Tryz.func111, Tryz.ntmps111
  go_wp2_with fail
  refine (need_yes _).mono ?_
  rintro e w1 ⟨rfl, rfl⟩
  go_wp2_with fail
  refine hP.out.mono ?_
  rintro e w2 ⟨hb2, hPP⟩
  cases ha : argE K.v y with
  | none =>
   rw [ha] at hPP
   obtain rfl : e = fl := hPP
   exact ⟨rfl, Makes.bad rfl hb2⟩
  | some b =>
   rw [ha] at hPP
   obtain ⟨v, rfl, ho2⟩ := hPP
   have hH := Lib.hid (Makes.good (r := some b) rfl hb2 ho2)
   clear hb2 ho2
   go_wp2_with fail
   go_ret
   rw [ha]
   exact hH.out
 ·have hR : Hid (oneE K.v K.args = none) := by
   show _ = _
   rcases ha : K.args with _ | ⟨y, _ | ⟨z, r⟩⟩
   ·rfl
   ·rw [ha] at h1; exact absurd rfl h1
   ·rfl
  obtain ⟨n, hn⟩ : ∃ n, K.args.length = n := ⟨_, rfl⟩
  obtain ⟨cb, hcb⟩ : ∃ n, K.w0.heap.size = n := ⟨_, rfl⟩
  rw [hn] at h1
  rw [hn, hcb] at c0
  rw [hcb] at hcl ⊢
  have hd : ((n : Int) == 1) = false := by rw [beq_eq_false_iff_ne]; omega
  clear hA hK hcb hn
  go_enter Tryz.func111, Tryz.ntmps111
  go_wp2_with fail
  refine (need_no _).mono ?_
  rintro e w1 ⟨rfl, rfl⟩
  exact ⟨rfl, Makes.bad hR.out (Below.refl _ _)⟩
end Go.Proofs.YtnegfigaiomehaaGreatDoor.Ck
end
section
namespace Go.Proofs.YtnegfigaiomehaaGreatDoor.Ck
open Go.RowKit Go.Lib Go.Shelf Go.Maps Go.Proofs.YtnegfigaiomehaaGreatDoorW.PrintWords Go.Proofs.YtnegfigaiomehaaGreatDoorW.PrintLast Go.Proofs.YtnegfigaiomehaaGreatDoorW.PrintMore Go.Proofs.YtnegfigaiomehaaGreatDoor.U Go.Proofs.YtnegfigaiomehaaGreatDoor.P Go.Proofs.YtnegfigaiomehaaGreatDoor.PTh Go.Proofs.YtnegfigaiomehaaGreatDoor.MapV
def rv (b : List Int) (i : Nat) : List Int := (List.range b.length).map fun k => if k < i ∨ b.length - i ≤ k then b.getD (b.length - 1 - k) 0 else b.getD k 0
theorem rv_len (b : List Int) (i : Nat) : (rv b i).length = b.length := by simp [rv]
theorem rv_at (b : List Int) (i k : Nat) (h : k < b.length) : (rv b i)[k]? = some (if k < i ∨ b.length - i ≤ k then b.getD (b.length - 1 - k) 0 else b.getD k 0) := by
 simp [rv, h]
theorem rv_zero (b : List Int) : rv b 0 = b := by
 apply List.ext_getElem?
 intro k
 by_cases h : k < b.length
 ·rw [rv_at b 0 k h, if_neg (by omega), List.getD_eq_getElem?_getD, List.getElem?_eq_getElem h]; rfl
 ·rw [List.getElem?_eq_none (by rw [rv_len]; omega), List.getElem?_eq_none (by omega)]
theorem rv_step (b : List Int) (i : Nat) (h : i < b.length - 1 - i) : ((rv b i).set i (b.getD (b.length - 1 - i) 0)).set (b.length - 1 - i) (b.getD i 0) = rv b (i + 1) := by
 apply List.ext_getElem?
 intro k
 by_cases hk : k < b.length
 ·rw [rv_at b (i + 1) k hk, List.getElem?_set, List.getElem?_set]
  simp only [List.length_set, rv_len]
  by_cases h1 : b.length - 1 - i = k
  ·rw [if_pos h1, if_pos (by omega), if_pos (by omega)]
   congr 2
   omega
  ·rw [if_neg h1]
   by_cases h2 : i = k
   ·rw [if_pos h2, if_pos (by omega), if_pos (by omega)]
    congr 2
    omega
   ·rw [if_neg h2, rv_at b i k hk]
    by_cases h3 : k < i ∨ b.length - i ≤ k
    ·rw [if_pos h3, if_pos (by omega)]
    ·rw [if_neg h3, if_neg (by omega)]
 ·rw [List.getElem?_eq_none (by simp only [List.length_set, rv_len]; omega), List.getElem?_eq_none (by rw [rv_len]; omega)]
theorem rv_end (b : List Int) (i : Nat) (h : b.length ≤ i + i + 1) : rv b i = b.reverse := by
 apply List.ext_getElem?
 intro k
 by_cases hk : k < b.length
 ·rw [rv_at b i k hk, List.getElem?_reverse hk]
  rw [List.getElem?_eq_getElem (by omega), List.getD_eq_getElem?_getD, List.getD_eq_getElem?_getD]
  by_cases h3 : k < i ∨ b.length - i ≤ k
  ·rw [if_pos h3, List.getElem?_eq_getElem (by omega)]; rfl
  ·rw [if_neg h3]
   have : b.length - 1 - k = k := by omega
   simp only [this]
   rw [List.getElem?_eq_getElem (by omega)]; rfl
 ·rw [List.getElem?_eq_none (by rw [rv_len]; omega), List.getElem?_eq_none (by simp; omega)]
theorem rv_get (b : List Int) (i : Nat) (h : i < b.length - 1 - i) : (rv b i).getD i 0 = b.getD i 0 ∧ (rv b i).getD (b.length - 1 - i) 0 = b.getD (b.length - 1 - i) 0 := by
 constructor
 ·rw [List.getD_eq_getElem?_getD, rv_at b i i (by omega), if_neg (by omega)]; rfl
 ·rw [List.getD_eq_getElem?_getD, rv_at b i _ (by omega), if_neg (by omega)]; rfl
theorem num_cell {w : World} {base n g cap : Nat} {xs : List Int} (h : w.ownsRow base 5 1 (.slice (some ⟨g, 0, none⟩) n cap) n (nums .u8 xs)) (hl : xs.length = n) (i : Nat) (hi : i < n) : w.cell? ⟨g, i, none⟩ = some (.int .u8 (xs.getD i 0)) := by
 have := h.cellAt i (by omega)
 rw [this]
 simp [nums, List.getD_eq_getElem?_getD, List.getElem?_eq_getElem (show i < xs.length by omega)]
theorem own_free {w : World} {base n g cap : Nat} {xs : List Value} (h : w.ownsRow base 5 1 (.slice (some ⟨g, 0, none⟩) n cap) n xs) (i : Nat) : w.frozen? ⟨g, i, none⟩ = false := by
 rcases h.2 with ⟨e, _⟩ | ⟨g', cap', cur, e, _, hh, _⟩
 ·cases e
 ·injection e with e1 e2 e3
  injection e1 with e1
  injection e1 with e1
  subst e1
  exact frozen_of_heap hh i
set_option maxRecDepth 100000 in
set_option maxHeartbeats 8000000 in
theorem reverse_any (base : Nat) (v : Value) (b : Txt) (w : World) (ho : w.ownsRow base 5 1 v b.length (bcells b)) (hl : b.length ≤ 1000000) :
  Calls Tryz.prog 112 #[v] w fun e w' => e = .returned (.tuple #[]) ∧ w'.ownsRow base 5 1 v b.length (bcells b.reverse) ∧ Below base w w' := by
 obtain ⟨n, hn⟩ : ∃ n, b.length = n := ⟨_, rfl⟩
 have hrev : Hid (bcells b.reverse = nums .u8 (ints b).reverse) := by show _ = _; simp [bcells, nums, ints]
 have hil : (ints b).length = n := (ints_len b).trans hn
 have ho1 : w.ownsRow base 5 1 v n (nums .u8 (ints b)) := by rw [← hn, ← bcells_nums]; exact ho
 rw [hrev.out, hn]
 rw [hn] at hl
 clear hrev ho hn
 generalize ints b = xs at *
 have hXL := Lib.hid hil
 clear hil
 rcases Nat.eq_zero_or_pos n with h0 | h0
 ·subst h0
  obtain rfl : xs = [] := List.length_eq_zero_iff.1 hXL.out
  obtain ⟨A, c, rfl⟩ : ∃ A c, v = .slice A 0 c := by
   rcases ho1.2 with ⟨e, _⟩ | ⟨g, cap, cur, e, _⟩
   ·exact ⟨_, _, e⟩
   ·exact ⟨_, _, e⟩
  have hO := Lib.hid ho1
  clear ho1
  go_enter Tryz.func112, Tryz.ntmps112
  go_wp2_with fail
  go_loopg [2, 3] 1 (fun gk s2 s3 wr => s2 = .int .i64 0 ∧ s3 = .int .i64 (-1) ∧ wr = w)
  case atStart => exact ⟨rfl, rfl, rfl⟩
  case round =>
   obtain ⟨rfl, rfl, rfl⟩ := hrel
   go_wp2_with fail
   go_end0
   exact ⟨rfl, by simpa using hO.out, Below.refl _ _⟩
 ·obtain ⟨g, cap, rfl, hg⟩ : ∃ g cap, v = .slice (some ⟨g, 0, none⟩) n cap ∧ base ≤ g := by
   rcases ho1.2 with ⟨e, hz⟩ | ⟨g, cap, cur, e, hg, _⟩
   ·omega
   ·exact ⟨_, _, e, hg⟩
  have hO := Lib.hid ho1
  clear ho1
  go_enter Tryz.func112, Tryz.ntmps112
  go_wp2_with fail
  go_loopg [2, 3] (n + 1) (fun gk s2 s3 wr => ∃ i : Nat, s2 = .int .i64 (i : Int) ∧ s3 = .int .i64 ((n : Int) - 1 - (i : Int)) ∧ i + gk = n + 1 ∧ i ≤ n ∧ Hid (wr.ownsRow base 5 1 (.slice (some ⟨g, 0, none⟩) n cap) n (nums .u8 (rv xs i))) ∧ Hid (Below base w wr))
  case atStart => exact ⟨0, rfl, by simp, by omega, by omega, by show World.ownsRow _ _ _ _ _ _ _; rw [rv_zero]; exact hO.out, Below.refl _ _⟩
  case round =>
   obtain ⟨i, rfl, rfl, hik, hin, hO1, hB⟩ := hrel
   by_cases hlt : i < n - 1 - i
   ·have hd : decide ((i : Int) < (n : Int) - 1 - (i : Int)) = true := by rw [decide_eq_true_iff]; omega
    obtain ⟨j, hj'⟩ : ∃ j, j = n - 1 - i := ⟨_, rfl⟩
    have hj := Lib.hid hj'
    clear hj'
    have hjl : j < n := by have := hj.out; omega
    have hjI : (n : Int) - 1 - (i : Int) = (j : Int) := by have := hj.out; omega
    rw [hjI] at hd ⊢
    have hgt := rv_get xs i (by rw [hXL.out]; omega)
    have c1 := num_cell hO1.out (by rw [rv_len, hXL.out]) i (by omega)
    have c2 := num_cell hO1.out (by rw [rv_len, hXL.out]) j (by omega)
    rw [hgt.1] at c1
    rw [hXL.out, ← hj.out] at hgt
    rw [hgt.2] at c2
    have hi0 : (0 : Int) ≤ (i : Int) := by omega
    have hi1 : (i : Int) < (n : Int) := by omega
    have hj0 : (0 : Int) ≤ (j : Int) := by omega
    have hj1 : (j : Int) < (n : Int) := by omega
    have hS0 : Hid (wr.drew.cell? ⟨g, i, none⟩ = some (.int .u8 (xs.getD i 0)) ∧ wr.drew.cell? ⟨g, j, none⟩ = some (.int .u8 (xs.getD j 0))) := ⟨c1, c2⟩
    have f1 : wr.drew.frozen? ⟨g, i, none⟩ = false := own_free hO1.out i
    have hO2 : Hid (wr.drew.ownsRow base 5 1 (.slice (some ⟨g, 0, none⟩) n cap) n (nums .u8 (rv xs i))) := hO1.out
    have hB2 := Lib.hid hB.out.drew
    have hst := rv_step xs i (by rw [hXL.out]; omega)
    rw [hXL.out, ← hj.out] at hst
    have hstH := Lib.hid hst
    clear c1 c2 hgt hO1 hst
    obtain ⟨x, hx⟩ : ∃ x, xs.getD i 0 = x := ⟨_, rfl⟩
    obtain ⟨y, hy⟩ : ∃ y, xs.getD j 0 = y := ⟨_, rfl⟩
    rw [hx, hy] at hS0 hstH
    clear hx hy
    go_wp2_with fail
    refine RegP.region (fun w' => w'.cell? ⟨g, i, none⟩ = some (.int .u8 x) ∧ w'.cell? ⟨g, j, none⟩ = some (.int .u8 y)) 13 [(0, 0), (0, 1), (0, 2), (0, 3), (0, 4), (0, 5), (0, 6), (1, 7), (0, 8), (0, 9), (0, 10), (1, 11), (0, 12), (3, 13), (0, 14), (3, 15)] (by kernel_rfl) (by kernel_rfl) (by rfl) (by kernel_rfl) (by exact hS0.out) ?_
    generalize wr.drew = wd at *
    refine RegP.pure1 (by (simp only [gA,gB,gC]); rfl) (by exact fun _ _ _ h => h) (by rfl) (by intro w'; go_simp; try with_reducible rfl) ?_
    try simp only [Act.put, pA,pB,pC]
    refine RegP.pure1 (by (simp only [gA,gB,gC]); rfl) (by exact fun _ _ _ h => h) (by rfl) (by intro w'; go_simp; try with_reducible rfl) ?_
    try simp only [Act.put, pA,pB,pC]
    refine RegP.pure1 (by (simp only [gA,gB,gC]); rfl) (by exact fun _ _ _ h => h) (by rfl) (by intro w'; go_simp; try with_reducible rfl) ?_
    try simp only [Act.put, pA,pB,pC]
    refine RegP.pure1 (by (simp only [gA,gB,gC]); rfl) (by exact fun _ _ _ h => h) (by rfl) (by intro w'; go_simp; try with_reducible rfl) ?_
    try simp only [Act.put, pA,pB,pC]
    refine RegP.pure1 (by (simp only [gA,gB,gC]); rfl) (by exact fun _ _ _ h => h) (by rfl) (by intro w'; go_simp; try with_reducible rfl) ?_
    try simp only [Act.put, pA,pB,pC]
    refine RegP.pure1 (by (simp only [gA,gB,gC]); rfl) (by exact fun _ _ _ h => h) (by rfl) (by intro w'; go_simp; try with_reducible rfl) ?_
    try simp only [Act.put, pA,pB,pC]
    refine RegP.pure1 (by (simp only [gA,gB,gC]); rfl) (by exact fun _ _ _ h => h) (by rfl) (by intro w'; go_simp; try with_reducible rfl) ?_
    try simp only [Act.put, pA,pB,pC]
    refine RegP.held1 (by (simp only [gA,gB,gC]); rfl) (by exact fun _ _ _ h => h) (by rfl) (by intro w' hS_; (try dsimp only at hS_); go_split_ands; go_simp; try with_reducible rfl) ?_
    try simp only [Act.put, pA,pB,pC]
    refine RegP.pure1 (by (simp only [gA,gB,gC]); rfl) (by exact fun _ _ _ h => h) (by rfl) (by intro w'; go_simp; try with_reducible rfl) ?_
    try simp only [Act.put, pA,pB,pC]
    refine RegP.pure1 (by (simp only [gA,gB,gC]); rfl) (by exact fun _ _ _ h => h) (by rfl) (by intro w'; go_simp; try with_reducible rfl) ?_
    try simp only [Act.put, pA,pB,pC]
    refine RegP.pure1 (by (simp only [gA,gB,gC]); rfl) (by exact fun _ _ _ h => h) (by rfl) (by intro w'; go_simp; try with_reducible rfl) ?_
    try simp only [Act.put, pA,pB,pC]
    refine RegP.held1 (by (simp only [gA,gB,gC]); rfl) (by exact fun _ _ _ h => h) (by rfl) (by intro w' hS_; (try dsimp only at hS_); go_split_ands; go_simp; try with_reducible rfl) ?_
    try simp only [Act.put, pA,pB,pC]
    refine RegP.pure1 (by (simp only [gA,gB,gC]); rfl) (by exact fun _ _ _ h => h) (by rfl) (by intro w'; go_simp; try with_reducible rfl) ?_
    try simp only [Act.put, pA,pB,pC]
    refine RegP.last1 (by (simp only [gA,gB,gC]); rfl) (fun K hK => ?_)
    have hO3 := Lib.hid (own_store hO2.out (i : Int) y).1
    have hB3 := Lib.hid (hB2.out.setCell (p := ⟨g, i, none⟩) hg (.int .u8 y))
    have t1 := hS0.out.1
    go_simp
    rw [Int.toNat_natCast] at hO3
    have t2 := num_cell hO3.out (by rw [List.length_set, rv_len, hXL.out]) j (by omega)
    have f2 := own_free hO3.out j
    generalize wd.setCell ⟨g, i, none⟩ (.int .u8 y) = w3 at *
    refine hK.out _ _ ?_
    clear hK K
    try simp only [Act.put, pA,pB,pC]
    refine RegP.pure1 (by (simp only [gA,gB,gC]); rfl) (by exact fun _ _ _ h => h) (by rfl) (by intro w'; go_simp; try with_reducible rfl) ?_
    try simp only [Act.put, pA,pB,pC]
    refine RegP.last1 (by (simp only [gA,gB,gC]); rfl) (fun K hK => ?_)
    have hO4 := Lib.hid (own_store hO3.out (j : Int) x).1
    have hB4 := Lib.hid (hB3.out.setCell (p := ⟨g, j, none⟩) hg (.int .u8 x))
    rw [Int.toNat_natCast, hstH.out] at hO4
    go_simp
    generalize w3.setCell ⟨g, j, none⟩ (.int .u8 x) = w4 at *
    refine hK.out _ _ ?_
    clear hK K
    try simp only [Act.put, pA,pB,pC]
    refine RegP.done1 ?_
    try dsimp only
    obtain ⟨gk, rfl⟩ : ∃ g', gk = g' + 1 := ⟨gk - 1, by omega⟩
    have hjn : Hid ((j : Int) - 1 = (n : Int) - 1 - ((i + 1 : Nat) : Int)) := by show _ = _; omega
    have hwj : IntKind.i64.wrap ((j : Int) - 1) = (j : Int) - 1 := by rw [IntKind.wrap_i64]; omega
    have hiN : i + 1 ≤ n := by omega
    clear hjI
    go_wp2_with fail
    go_roundg gk
    case measure => omega
    case rel => exact ⟨i + 1, by first | rfl | simp, by first | (rw [← hjn.out]; done) | (rw [← hjn.out]; rfl), by omega, hiN, hO4, hB4⟩
   ·have hd : decide ((i : Int) < (n : Int) - 1 - (i : Int)) = false := by rw [decide_eq_false_iff_not]; omega
    go_wp2_with fail
    go_end0
    refine ⟨rfl, ?_, hB.out⟩
    have := hO1.out
    rw [rv_end xs i (by rw [hXL.out]; omega)] at this
    exact this
set_option maxRecDepth 100000 in
set_option maxHeartbeats 4000000 in
theorem cat_any (K : CK) (hK : K.Ok) (w : World) (vf : Value) (m : Int) (hA : K.At w vf m) :
  Calls Tryz.prog 88 #[at0 K.w0.heap.size] w (Makes (allE K.v [] K.args) w) := by
 have hP := Lib.hid (all_any K hK w vf m hA)
 generalize allE K.v [] K.args = R at *
 generalize K.w0.heap.size = cb at *
 clear hA
 go_enter Tryz.func88, Tryz.ntmps88
 go_wp2_with fail
 refine hP.out.mono ?_
 rintro e w2 ⟨hb2, hPP⟩
 cases R with
 | none =>
  obtain rfl : e = fl := hPP
  exact ⟨rfl, Makes.bad rfl hb2⟩
 | some b =>
  obtain ⟨v, rfl, ho2⟩ := hPP
  have hH := Lib.hid (Makes.good (r := some b) rfl hb2 ho2)
  clear hb2 ho2
  go_wp2_with fail
  go_ret
  exact hH.out
set_option maxRecDepth 100000 in
set_option maxHeartbeats 4000000 in
theorem rev_any (K : CK) (hK : K.Ok) (w : World) (vf : Value) (m : Int) (hA : K.At w vf m) :
  Calls Tryz.prog 89 #[at0 K.w0.heap.size] w (Makes ((oneE K.v K.args).map List.reverse) w) := by
 have hP := Lib.hid (one_any K hK w vf m hA)
 have hL : Hid (∀ b, oneE K.v K.args = some b → b.length ≤ 100000) := by
  intro b hb
  unfold oneE at hb
  split at hb
  ·exact arg_len hb hK.lf
  ·cases hb
 generalize oneE K.v K.args = R at *
 generalize K.w0.heap.size = cb at *
 clear hA
 go_enter Tryz.func89, Tryz.ntmps89
 go_wp2_with fail
 refine hP.out.mono ?_
 rintro e w2 ⟨hb2, hPP⟩
 cases R with
 | none =>
  obtain rfl : e = fl := hPP
  exact ⟨rfl, Makes.bad rfl hb2⟩
 | some b =>
  obtain ⟨v, rfl, ho2⟩ := hPP
  have hRv := Lib.hid (reverse_any w.heap.size v b w2 ho2 (by have := hL.out b rfl; omega))
  have hbH := Lib.hid hb2
  clear hb2 ho2
  go_wp2_with fail
  refine hRv.out.mono ?_
  rintro e w3 ⟨rfl, ho3, hb3⟩
  have hH := Lib.hid (Makes.good (r := (some b).map List.reverse) rfl (hbH.out.trans hb3) (by rw [List.length_reverse]; exact ho3))
  clear hb3 ho3
  go_wp2_with fail
  go_ret
  exact hH.out
theorem fail_any (K : CK) (w : World) : Calls Tryz.prog 93 #[at0 K.w0.heap.size] w (Makes none w) := by
 generalize K.w0.heap.size = cb
 go_enter Tryz.func93, Tryz.ntmps93
 go_wp2_with fail
 refine (need_no _).mono ?_
 rintro e w3 ⟨rfl, rfl⟩
 exact ⟨rfl, Makes.bad rfl (Below.refl _ _)⟩
def Gives (r : Option Txt) (w : World) (e : Ending) (w' : World) : Prop := Below w.heap.size w w' ∧ match r with
 | none => e = fl
 | some b => ∃ A c, e = .returned (.slice A b.length c) ∧ b.length ≤ c ∧ (Kd.int .u8).C w' A b.length (ints b)
theorem Makes.gives {r : Option Txt} {w : World} {e : Ending} {w' : World} (h : Makes r w e w') : Gives r w e w' := by
 obtain ⟨hb, h⟩ := h
 refine ⟨hb, ?_⟩
 cases r with
 | none => exact h
 | some b =>
  obtain ⟨v, rfl, ho⟩ := h
  obtain ⟨A, c, rfl, hl, hC⟩ := own_reads ho
  exact ⟨A, c, rfl, hl, hC⟩
theorem C_ints {w : World} {A : Option Addr} {n : Nat} {xs : List Int} (h : ReadsInt w .u8 A n xs) : (Kd.int .u8).C w A n xs := by
 refine ⟨h.1, h.2.1, fun hn => ?_⟩
 obtain ⟨ad, rfl, hc⟩ := h.2.2 hn
 refine ⟨ad, rfl, fun j p hj => ⟨[.int .u8 p], rfl, rfl, fun i u hi => ?_⟩⟩
 have hjl : j < xs.length := (List.getElem?_eq_some_iff.1 hj).1
 have := hc j (by rw [← h.1]; exact hjl)
 rw [List.getD_eq_getElem?_getD, hj] at this
 cases i with
 | zero =>
  injection hi with hi
  subst hi
  rwa [show j * (Kd.int .u8).sz + 0 = j by show j * 1 + 0 = j; omega]
 | succ i => simp at hi
theorem bytesOf_B (b : Txt) : bytesOf (B b) = ints b := by simp [bytesOf, ints, data_B]
theorem conv_gives (b : Txt) (s : ByteArray) (hs : s = B b) (w w2 : World) (hl : b.length ≤ 100000000000) (hb : Below w.heap.size w w2) :
  (convert 9 37 (.string s)).run Tryz.prog w2 = .ok (.slice (some ⟨w2.heap.size, 0, none⟩) b.length (grownCap w2 b.length 0 5)) (Lib.bytesWorld w2 5 (B b)) ∧
   Gives (some b) w (.returned (.slice (some ⟨w2.heap.size, 0, none⟩) b.length (grownCap w2 b.length 0 5))) (Lib.bytesWorld w2 5 (B b)) := by
 subst hs
 refine ⟨?_, bytes_below hb hb.size _ _, _, _, rfl, ?_, ?_⟩
 ·have := print_bytes (P := Tryz.prog) 9 37 5 Tryz.underlying9 Tryz.underlying37 Tryz.underlying5 (B b) w2
  rw [size_B] at this
  exact this
 ·exact grownCap_ge w2 b.length 0 5
 ·have := C_ints (bytes_reads w2 5 (B b) (by rw [size_B]; omega))
  rw [size_B, bytesOf_B] at this
  exact this
theorem join_B (ps : List Txt) : Lib.join ((ps.map B).map (·.data.toList)) [32] = joinS ps := by
 have hj : (ps.map B).map (fun x => x.data.toList) = ps := by simp [Function.comp_def]
 rw [hj]
 rfl
theorem join_len (ps : List Txt) (h : ∀ p ∈ ps, p.length ≤ 100000) : (joinS ps).length ≤ 100001 * ps.length := by
 have h1 := joinS_len ps
 have h2 : totalP ps ≤ 100000 * ps.length := by
  clear h1
  induction ps with
  | nil => simp [totalP]
  | cons p ps ih =>
   have h3 := ih (fun q hq => h q (List.mem_cons_of_mem _ hq))
   have h4 := h p (by simp)
   simp only [totalP, List.map_cons, List.sum_cons, List.length_cons] at h3 ⊢
   omega
 omega
theorem join_any (A : Option Addr) (c : Nat) (ps : List Txt) (w : World) (hc : Kd.C Kd.string w A ps.length (ps.map B)) (hle : ps.length ≤ c) (hn : ps.length ≤ 100000) (hl : ∀ p ∈ ps, p.length ≤ 100000) :
  Calls Tryz.prog 96 #[.slice A ps.length c, .string ⟨#[32]⟩] w fun e w' => e = .returned (.string (B (joinS ps))) ∧ Below w.heap.size w w' := by
 by_cases h0 : ps = []
 ·subst h0
  exact (Tryz.strings_Join_none A c ⟨#[32]⟩ w).mono fun e w' ⟨he, hw⟩ => ⟨he, hw ▸ Below.refl _ _⟩
 ·have hpos := List.length_pos_iff.2 h0
  obtain ⟨ad, rfl, k0⟩ := text_at hc 0 hpos
  have e0 : ad.add 0 = ad := by simp [Addr.add]
  rw [e0] at k0
  have had := addr_plain k0
  have := Tryz.strings_Join ad.block ad.off c (ps.map B) ⟨#[32]⟩ w (fun j x hx => by
   have hj : j < ps.length := by have := (List.getElem?_eq_some_iff.1 hx).1; simpa using this
   obtain ⟨ad2, ha2, kj⟩ := text_at hc j hj
   injection ha2 with ha2
   subst ha2
   rw [List.getElem?_map, List.getElem?_eq_getElem hj] at hx
   injection hx with hx
   subst hx
   cases j with
   | zero => rw [e0, had] at kj; exact kj
   | succ j => exact cell_add kj) (World.block_lt_of_cell? w ad k0) (by rw [List.length_map]; omega) (by rw [List.length_map]; exact hle) (by
    show (Lib.join ((ps.map B).map (·.data.toList)) [32]).length ≤ _
    rw [join_B]
    have := join_len ps hl
    omega)
  rw [List.length_map, ← had] at this
  refine this.mono ?_
  rintro e w' ⟨rfl, hb⟩
  refine ⟨?_, hb⟩
  have := join_B ps
  show Ending.returned (.string ⟨(Lib.join ((ps.map B).map (·.data.toList)) [32]).toArray⟩) = _
  rw [this]
set_option maxRecDepth 100000 in
set_option maxHeartbeats 4000000 in
theorem put_any (K : CK) (hK : K.Ok) (w : World) (vf : Value) (m : Int) (hA : K.At w vf m) :
  Calls Tryz.prog 91 #[at0 K.w0.heap.size] w (Gives (some (putL K.args)) w) := by
 have hP := Lib.hid (join_any K.Aa K.ca K.args w (Kd.C_below hK.ra hA.b) hK.lc hK.na hK.la)
 have hlen : (joinS K.args).length ≤ 100001 * 100000 := Nat.le_trans (join_len K.args hK.la) (Nat.mul_le_mul_left _ hK.na)
 have hE : Hid (putL K.args = joinS K.args ++ [10]) := rfl
 have c0 := (cell_of_heap (j := 0) hA.h).trans rfl
 have hcl := (Array.getElem?_eq_some_iff.1 hA.h).1
 generalize K.w0.heap.size = cb at *
 generalize joinS K.args = j at *
 generalize K.args.length = n at *
 clear hA hK
 go_enter Tryz.func91, Tryz.ntmps91
 go_wp2_with fail
 refine hP.out.mono ?_
 rintro e w2 ⟨rfl, hb2⟩
 have hbH := Lib.hid hb2
 clear hb2
 have hsz : (B j).size = j.length := size_B j
 have hcv := conv_gives (j ++ [10]) (B j ++ ⟨#[10]⟩) (B_append j [10]) w w2 (by simp; omega) hbH.out
 have hcv1 := hcv.1
 have hcv2 := Lib.hid hcv.2
 clear hcv
 obtain ⟨jj, hjj⟩ : ∃ x, j ++ [10] = x := ⟨_, rfl⟩
 have hJ := Lib.hid (hE.out.trans hjj)
 rw [hjj] at hcv1 hcv2
 clear hjj
 go_wp2_with fail
 go_ret
 rw [hJ.out]
 exact hcv2.out
end Go.Proofs.YtnegfigaiomehaaGreatDoor.Ck
end
section
namespace Go.Proofs.YtnegfigaiomehaaGreatDoor.Ck
open Go.RowKit Go.Lib Go.Shelf Go.Maps Go.Proofs.YtnegfigaiomehaaGreatDoorW.PrintWords Go.Proofs.YtnegfigaiomehaaGreatDoorW.PrintLast Go.Proofs.YtnegfigaiomehaaGreatDoorW.PrintMore Go.Proofs.YtnegfigaiomehaaGreatDoor.U Go.Proofs.YtnegfigaiomehaaGreatDoor.P Go.Proofs.YtnegfigaiomehaaGreatDoor.PTh Go.Proofs.YtnegfigaiomehaaGreatDoor.MapV
set_option maxRecDepth 100000 in
set_option maxHeartbeats 4000000 in
theorem tz64_16 (w : World) (ht : Tab w) : Calls Tryz.prog 191 #[.int .u64 16] w fun e w' => e = .returned (.int .i64 4) ∧ w' = w := by
 have hc := ht.cell
 have h1 : bits .and .u64 16 (IntKind.u64.wrap (-16)) = 16 := by decide
 have h2 : IntKind.u64.wrap (16 * 285870213051353865) / 288230376151711744 = 15 := by decide
 clear ht
 go_enter Tryz.func191, Tryz.ntmps191
 go_wp2_with fail
 go_ret
 exact ⟨rfl, rfl⟩
set_option maxRecDepth 100000 in
set_option maxHeartbeats 4000000 in
theorem tz_16 (w : World) (ht : Tab w) : Calls Tryz.prog 184 #[.int .u64 16] w fun e w' => e = .returned (.int .i64 4) ∧ w' = w := by
 have hP := Lib.hid (tz64_16 w ht)
 clear ht
 go_enter Tryz.func184, Tryz.ntmps184
 go_wp2_with fail
 refine hP.out.mono ?_
 rintro e w1 ⟨rfl, rfl⟩
 go_wp2_with fail
 go_ret
 exact ⟨rfl, rfl⟩
set_option maxRecDepth 100000 in
set_option maxHeartbeats 4000000 in
theorem pow2_16 (w : World) : Calls Tryz.prog 183 #[.int .i64 16] w fun e w' => e = .returned (.bool true) ∧ w' = w := by
 have h1 : bits .and .i64 16 15 = 0 := by decide
 go_enter Tryz.func183, Tryz.ntmps183
 go_wp2_with fail
 go_ret
 exact ⟨rfl, rfl⟩
def hexN : Nat → Nat → Txt
 | 0, _ => []
 | f + 1, u => if u < 16 then [hexDigit u] else hexN f (u / 16) ++ [hexDigit (u % 16)]
theorem u64_and15 (u : Nat) (h : u < 18446744073709551616) : bits .and .u64 (u : Int) 15 = ((u % 16 : Nat) : Int) := by
 have := bits_mask .u64 64 (by decide) (fun n h0 h1 => by rw [IntKind.wrap_u64]; omega) 4 (by decide) (u : Int) (by omega) (by omega)
 rw [show ((2 : Int) ^ 4 - 1) = 15 from rfl] at this
 rw [this]
 omega
abbrev digitsB : ByteArray := ⟨#[48, 49, 50, 51, 52, 53, 54, 55, 56, 57, 97, 98, 99, 100, 101, 102, 103, 104, 105, 106, 107, 108, 109, 110, 111, 112, 113, 114, 115, 116, 117, 118, 119, 120, 121, 122]⟩
theorem digits_all : ∀ d : Fin 16, digitsB[d.val]'(Nat.lt_trans d.isLt (by decide)) = hexDigit d.val := by decide
theorem digit_at (d : Nat) (h : d < 16) : digitsB[d]'(Nat.lt_trans h (by decide)) = hexDigit d := digits_all ⟨d, h⟩
theorem infoU8 : (Tryz.prog.info? 5).map (fun i => (i.zero, i.size, i.bytes)) = some (some (.int .u8 0), 1, 1) := by kernel_rfl
theorem sizeU8 (w : World) : (Go.sizeOf 5).run Tryz.prog w = .ok 1 w := by
 cases hq : Tryz.prog.info? 5 with
 | none => have h := infoU8; rw [hq] at h; cases h
 | some i => rw [run_sizeOf w hq, show Tryz.prog.cellsOf 5 = 1 by kernel_rfl]
theorem cut_arr (g j : Nat) (hj : j < 65) (W : World) : (Instr.sliceAt 228 (.pointer (some ⟨g, 0, none⟩)) (some (.int .i64 (j : Int))) none none).run Tryz.prog W = .ok (.slice (some ⟨g, j, none⟩) (65 - j) (65 - j)) W := by
 have hlen : Tryz.prog.arrayLen 228 = 65 := by kernel_rfl
 have he : Tryz.prog.elem 228 = 5 := by kernel_rfl
 have ht : Tryz.prog.underlying 228 = some (.array (Tryz.prog.arrayLen 228) (Tryz.prog.elem 228)) := by kernel_rfl
 rw [run_sliceAt_array_l W 228 ⟨g, 0, none⟩ ht .i64 (j : Int) (by omega) (by rw [hlen]; omega), hlen, he, sizeU8 W]
 have h1 : ¬ (65 : Nat) = j := by omega
 simp [Result.andThen, slicedAt, Addr.add, h1]
 by_cases h0 : j = 0
 ·simp [h0]
 ·simp [h0]
theorem set_drop (cur : Array Value) (j : Nat) (c : UInt8) (acc : Txt) (hj : j < cur.size) (h : cur.toList.drop (j + 1) = bcells acc) : (cur.setIfInBounds j (.int .u8 (c.toNat : Int))).toList.drop j = bcells (c :: acc) := by
 rw [Array.toList_setIfInBounds, List.drop_eq_getElem_cons (by simpa using hj)]
 simp [List.drop_set, h, bcells]
theorem str_ints (l : Txt) : strOfNums (ints l) = B l := by
 unfold strOfNums ints
 rw [List.map_map]
 have : ((fun n : Int => UInt8.ofNat n.toNat) ∘ fun x : UInt8 => (x.toNat : Int)) = id := by funext x; simp
 rw [this, List.map_id]
theorem conv_block {w : World} {g : Nat} {cur : Array Value} {t : TypeId} (h : w.heap[g]? = some (.cells cur t (0, 0))) (j : Nat) (l : Txt) (n : Nat) (hd : cur.toList.drop j = bcells l) (hn : n = cur.size - j) (hs : l.length ≤ 1000) :
  (convert 37 9 (.slice (some ⟨g, j, none⟩) n n)).run Tryz.prog w = .ok (.string (B l)) w := by
 have hl : l.length = n := by
  have := congrArg List.length hd
  rw [List.length_drop, bcells_len, Array.length_toList] at this
  omega
 subst hl
 have hC : (Kd.int .u8).C w (some ⟨g, j, none⟩) l.length (ints l) := by
  refine C_ints ⟨ints_len l, by omega, fun _ => ⟨_, rfl, fun k hk => ?_⟩⟩
  have e : (⟨g, j, none⟩ : Addr).add k = ⟨g, j + k, none⟩ := by
   unfold Addr.add
   by_cases h0 : k = 0
   ·simp [h0]
   ·simp [h0]
  rw [e, cell_of_heap h]
  have h1 : cur.toList[j + k]? = (bcells l)[k]? := by rw [← hd, List.getElem?_drop]
  rw [Array.getElem?_toList] at h1
  rw [h1]
  simp [bcells, ints, List.getD_eq_getElem?_getD, hk]
 have := Kd.C_string (P := Tryz.prog) (src := 37) (dst := 9) (e := 5) (c := l.length) Tryz.underlying37 Tryz.underlying5 Tryz.underlying9 hC
 rw [str_ints] at this
 exact this
set_option maxRecDepth 100000 in
set_option maxHeartbeats 8000000 in
theorem bits_any (u : Nat) (hu : u < 18446744073709551616) (w : World) (ht : Tab w) :
  Calls Tryz.prog 166 #[.slice none 0 0, .int .u64 (u : Int), .int .i64 16, .bool false, .bool false] w fun e w' => e = .returned (.tuple #[.slice none 0 0, .string (B (hexN 16 u))]) ∧ Below w.heap.size w w' := by
 have hR := Lib.hid (rfl : hexN 16 u = hexN 16 u)
 have htH := Lib.hid ht
 clear ht
 obtain ⟨g, hg⟩ : ∃ g, w.heap.size = g := ⟨_, rfl⟩
 have hGH := Lib.hid hg
 have hb0 : Hid (Below w.heap.size w (w.alloc (.cells Tryz.zeroCells228 228))) := (Below.refl _ _).alloc (Nat.le_refl _) _
 have hx0 : Hid ((w.alloc (.cells Tryz.zeroCells228 228)).heap[g]? = some (.cells Tryz.zeroCells228 228 (0, 0))) := by rw [← hg]; exact heap_alloc_new _ _
 clear hg
 go_enter Tryz.func166, Tryz.ntmps166
 go_wp2_with fail
 rw [hGH.out]
 generalize w.alloc (.cells Tryz.zeroCells228 228) = w1 at *
 have htr := Lib.hid (htH.out.below hb0.out)
 refine (pow2_16 _).mono ?_
 rintro e w2 ⟨rfl, rfl⟩
 go_wp2_with fail
 refine (tz_16 _ htr.out).mono ?_
 rintro e w3 ⟨rfl, rfl⟩
 have hR0 : Hid (hexN 16 u ++ [] = hexN 16 u) := by show _ = _; simp
 obtain ⟨R, hRR⟩ : ∃ R, hexN 16 u = R := ⟨_, rfl⟩
 have hR1 : Hid (hexN 16 u ++ [] = R) := hRR ▸ hR0.out
 have hRH := Lib.hid hRR
 clear hRR hR0
 go_wp2_with fail
 go_loopg [1, 13] 16 (fun gk s1 s13 wr => ∃ (u : Nat) (acc : Txt) (i : Nat) (cur : Array Value), s1 = .int .u64 (u : Int) ∧ s13 = .int .i64 (i : Int) ∧ 1 ≤ gk ∧ gk ≤ 16 ∧ Hid (i = 49 + gk) ∧ u < 16 ^ gk ∧ u < 18446744073709551616 ∧ Hid (hexN gk u ++ acc = R) ∧ Hid (wr.heap[g]? = some (.cells cur 228 (0, 0)) ∧ cur.size = 65 ∧ cur.toList.drop i = bcells acc) ∧ Hid (Below w.heap.size w wr))
 case atStart => exact ⟨u, [], 65, _, rfl, rfl, by omega, by omega, rfl, by omega, hu, hR1, ⟨hx0.out, by kernel_rfl, by kernel_rfl⟩, hb0⟩
 case round =>
  obtain ⟨u, acc, i, cur, rfl, rfl, hgk, hgk2, hi, hup, hu64, hE, hC, hB⟩ := hrel
  obtain ⟨j, rfl⟩ : ∃ j, i = j + 1 := ⟨i - 1, by have := hi.out; omega⟩
  have hj : j < 65 := by have := hi.out; omega
  have hj0 : (0 : Int) ≤ (j : Int) := by omega
  have hj1 : (j : Int) < 65 := by omega
  obtain ⟨hblk, hsz, hdr⟩ := hC.out
  have hblkH := Lib.hid hblk
  have hszH := Lib.hid hsz
  have hdrH := Lib.hid hdr
  have cj := (cell_of_heap (j := j) hblk).trans (Array.getElem?_eq_getElem (by rw [hsz]; exact hj))
  have fj := frozen_of_heap hblk j
  generalize cur[j]'(by rw [hsz]; exact hj) = x at cj
  have hgw : w.heap.size ≤ g := Nat.le_of_eq hGH.out
  clear hblk hsz hdr hC
  by_cases h16 : 16 ≤ u
  ·have hd : decide ((16 : Int) ≤ (u : Int)) = true := by rw [decide_eq_true_iff]; omega
   have hd2 : decide ((u : Int) ≥ 16) = true := hd
   have han := u64_and15 u hu64
   obtain ⟨d, hdd⟩ : ∃ d, u % 16 = d := ⟨_, rfl⟩
   have hD := Lib.hid hdd
   have hd16 : d < 16 := by omega
   rw [hdd] at han
   clear hdd
   obtain ⟨q, rfl⟩ : ∃ q, gk = q + 1 := ⟨gk - 1, by omega⟩
   have hq : Hid (1 ≤ q) := by
    show 1 ≤ q
    rcases Nat.eq_zero_or_pos q with h | h
    ·subst h; simp at hup; omega
    ·exact h
   have hup2 : Hid (u / 16 < 16 ^ q) := by
    show _ < _
    rw [Nat.div_lt_iff_lt_mul (by omega), ← Nat.pow_succ]; exact hup
   have hE2 : Hid (hexN q (u / 16) ++ (hexDigit d :: acc) = R) := by
    show _ = R
    rw [← hE.out, hexN, if_neg (by omega), hD.out]; simp
   have hdg := digit_at d hd16
   have hb1 := Lib.hid (hB.out.setCell (p := ⟨g, j, none⟩) hgw (.int .u8 ((hexDigit d).toNat : Int)))
   have hblk1 := Lib.hid (blk_put hblkH.out j (.int .u8 ((hexDigit d).toNat : Int)) rfl)
   have hst := Lib.hid (set_drop cur j (hexDigit d) acc (by rw [hszH.out]; exact hj) hdrH.out)
   have hsz1 : Hid ((cur.setIfInBounds j (.int .u8 ((hexDigit d).toNat : Int))).size = 65) := by show _ = _; rw [Array.size_setIfInBounds]; exact hszH.out
   have hi2 : Hid (j = 49 + q) := by have := hi.out; show j = _; omega
   have hui : Hid ((u : Int) / 16 = ((u / 16 : Nat) : Int)) := by show _ = _; omega
   clear hup
   go_wp2_with fail
   go_roundg q
   case measure => omega
   case rel =>
    rw [hui.out]
    exact ⟨u / 16, hexDigit d :: acc, j, _, rfl, by first | rfl | simp, hq.out, by omega, hi2, hup2.out, by omega, hE2, ⟨hblk1.out, hsz1.out, hst.out⟩, hb1⟩
  ·have hd : decide ((16 : Int) ≤ (u : Int)) = false := by rw [decide_eq_false_iff_not]; omega
   have hd2 : decide ((u : Int) ≥ 16) = false := hd
   have hu16 : u < 16 := by omega
   have hu0 : (0 : Int) ≤ (u : Int) := by omega
   have hu1 : (u : Int) < 36 := by omega
   have hdg := digit_at u hu16
   have hE2 : Hid (hexDigit u :: acc = R) := by
    show _ = R
    obtain ⟨q, rfl⟩ : ∃ q, gk = q + 1 := ⟨gk - 1, by omega⟩
    rw [← hE.out, hexN, if_pos hu16]; rfl
   have hb1 := Lib.hid (hB.out.setCell (p := ⟨g, j, none⟩) hgw (.int .u8 ((hexDigit u).toNat : Int)))
   have hblk1 := Lib.hid (blk_put hblkH.out j (.int .u8 ((hexDigit u).toNat : Int)) rfl)
   have hst := Lib.hid (set_drop cur j (hexDigit u) acc (by rw [hszH.out]; exact hj) hdrH.out)
   have hsz1 : Hid ((cur.setIfInBounds j (.int .u8 ((hexDigit u).toNat : Int))).size = 65) := by show _ = _; rw [Array.size_setIfInBounds]; exact hszH.out
   have hcv : Hid ((convert 37 9 (.slice (some ⟨g, j, none⟩) (65 - j) (65 - j))).run Tryz.prog (wr.setCell ⟨g, j, none⟩ (.int .u8 ((hexDigit u).toNat : Int))) = .ok (.string (B R)) (wr.setCell ⟨g, j, none⟩ (.int .u8 ((hexDigit u).toNat : Int)))) := by
    rw [← hE2.out]
    exact conv_block hblk1.out j (hexDigit u :: acc) (65 - j) hst.out (by rw [hsz1.out]) (by have h1 := congrArg List.length hst.out; rw [List.length_drop, bcells_len, Array.length_toList, hsz1.out] at h1; omega)
   have hcut := cut_arr g j hj
   have hcv1 := hcv.out
   clear hcv
   go_wp2_with fail
   go_ret2
   refine ⟨?_, hb1.out⟩
   rw [hRH.out]; rfl
set_option maxRecDepth 100000 in
set_option maxHeartbeats 8000000 in
theorem format_any (u : Nat) (hu : u < 18446744073709551616) (w : World) (ht : Tab w) :
  Calls Tryz.prog 135 #[.int .u64 (u : Int), .int .i64 16] w fun e w' => e = .returned (.string (B (hexN 16 u))) ∧ Below w.heap.size w w' := by
 have hP := Lib.hid (bits_any u hu w ht)
 clear ht
 generalize hexN 16 u = R at *
 go_enter Tryz.func135, Tryz.ntmps135
 go_wp2_with fail
 refine hP.out.mono ?_
 rintro e w1 ⟨rfl, hb⟩
 go_wp2_with fail
 go_ret
 exact ⟨rfl, hb⟩
set_option maxRecDepth 100000 in
set_option maxHeartbeats 8000000 in
theorem formatU_any (u : Nat) (hu : u < 18446744073709551616) (w : World) (ht : Tab w) :
  Calls Tryz.prog 114 #[.int .u64 (u : Int), .int .i64 16] w fun e w' => e = .returned (.string (B (hexN 16 u))) ∧ Below w.heap.size w w' := by
 have hP := Lib.hid (format_any u hu w ht)
 clear ht
 generalize hexN 16 u = R at *
 go_enter Tryz.func114, Tryz.ntmps114
 go_wp2_with fail
 refine hP.out.mono ?_
 rintro e w1 ⟨rfl, hb⟩
 go_wp2_with fail
 go_ret
 exact ⟨rfl, hb⟩
end Go.Proofs.YtnegfigaiomehaaGreatDoor.Ck
end
section
namespace Go.Proofs.YtnegfigaiomehaaGreatDoor.Ck
open Go.RowKit Go.Lib Go.Shelf Go.Maps Go.Proofs.YtnegfigaiomehaaGreatDoorW.PrintWords Go.Proofs.YtnegfigaiomehaaGreatDoorW.PrintLast Go.Proofs.YtnegfigaiomehaaGreatDoorW.PrintMore Go.Proofs.YtnegfigaiomehaaGreatDoor.U Go.Proofs.YtnegfigaiomehaaGreatDoor.P Go.Proofs.YtnegfigaiomehaaGreatDoor.PTh Go.Proofs.YtnegfigaiomehaaGreatDoor.MapV
def hashS (h : Nat) (c : UInt8) : Nat := ((Nat.xor h c.toNat) * 1099511628211) % 18446744073709551616
theorem hashS_lt (h : Nat) (c : UInt8) : hashS h c < 18446744073709551616 := Nat.mod_lt _ (by decide)
theorem hashGo_cons (h : Nat) (c : UInt8) (l : Txt) : hashGo h (c :: l) = hashGo (hashS h c) l := rfl
theorem hashGo_lt : ∀ (l : Txt) (h : Nat), h < 18446744073709551616 → hashGo h l < 18446744073709551616
 | [], h, hh => hh
 | c :: l, h, hh => by rw [hashGo_cons]; exact hashGo_lt l _ (hashS_lt h c)
set_option maxRecDepth 100000 in
set_option maxHeartbeats 4000000 in
theorem hash1_any (h : Nat) (c : UInt8) (hh : h < 18446744073709551616) (w : World) :
  Calls Tryz.prog 136 #[.int .u64 (h : Int), .int .u8 (c.toNat : Int)] w fun e w' => e = .returned (.int .u64 (hashS h c : Int)) ∧ w' = w := by
 have hc : c.toNat < 256 := c.toNat_lt
 obtain ⟨d, hd⟩ : ∃ d, c.toNat = d := ⟨_, rfl⟩
 have hS : Hid (hashS h c = ((h ^^^ d) * 1099511628211) % 18446744073709551616) := by show _ = _; rw [← hd]; rfl
 rw [hd] at hc ⊢
 have h1 := bits_xor_u64_nat h d hh (by omega)
 have h2 : IntKind.u64.wrap (d : Int) = (d : Int) := by rw [IntKind.wrap_u64]; omega
 have h3 : IntKind.u64.wrap (((h ^^^ d : Nat) : Int) * 1099511628211) = ((((h ^^^ d) * 1099511628211) % 18446744073709551616 : Nat) : Int) := by rw [IntKind.wrap_u64]; omega
 generalize h ^^^ d = x at *
 go_enter Tryz.func136, Tryz.ntmps136
 go_wp2_with fail
 go_ret
 exact ⟨by rw [hS.out]; rfl, rfl⟩
set_option maxRecDepth 100000 in
set_option maxHeartbeats 4000000 in
theorem fold_any (A : Option Addr) (c : Nat) (b : Txt) (w : World) (hC : (Kd.int .u8).C w A b.length (ints b)) (h0 : Nat) (hh : h0 < 18446744073709551616) (hl : b.length < 100000000000) :
  Calls Tryz.prog 137 #[.int .u64 (h0 : Int), .slice A b.length c, .func (.func 136) #[] #[]] w fun e w' => e = .returned (.int .u64 (hashGo h0 b : Int)) ∧ w' = w := by
 obtain ⟨n, hn⟩ : ∃ n, b.length = n := ⟨_, rfl⟩
 have hNH := Lib.hid hn
 obtain ⟨R, hR⟩ : ∃ R, hashGo h0 b = R := ⟨_, rfl⟩
 have hR0 : Hid (hashGo h0 (b.drop 0) = R) := hR
 rw [hn] at hl hC ⊢
 rw [hR]
 have hCH := Lib.hid hC
 clear hC hn hR
 go_enter Tryz.func137, Tryz.ntmps137
 go_wp2_with fail
 go_loopg [0, 11] n (fun gk s0 s11 wr => ∃ (i h : Nat), s0 = .int .u64 (h : Int) ∧ s11 = .int .i64 (i : Int) ∧ i + gk = n ∧ h < 18446744073709551616 ∧ Hid (hashGo h (b.drop i) = R) ∧ wr = w)
 case atStart => exact ⟨0, h0, rfl, rfl, Nat.zero_add _, hh, hR0, rfl⟩
 case round =>
  obtain ⟨i, h, rfl, rfl, hik, hh, hE, rfl⟩ := hrel
  cases gk with
  | zero =>
   obtain rfl : i = n := by omega
   have hlt : decide ((i : Int) < (i : Int)) = false := by simp
   have hE2 : Hid (h = R) := by
    show h = R
    rw [← hE.out, List.drop_of_length_le (by rw [hNH.out]; omega)]; rfl
   go_wp2_with fail
   go_ret
   exact ⟨by rw [← hE2.out]; rfl, rfl⟩
  | succ gk =>
   have hiN : i < b.length := by rw [hNH.out]; omega
   have hlt : decide ((i : Int) < (n : Int)) = true := by rw [decide_eq_true_iff]; omega
   obtain ⟨ad, rfl, _⟩ := hCH.out.2.2 (by omega)
   obtain ⟨y, hy⟩ : ∃ y, b[i] = y := ⟨_, rfl⟩
   have hC2 : (Kd.int .u8).C wr (some ad) b.length (ints b) := by rw [hNH.out]; exact hCH.out
   have k0 := byte_cell hC2 i (.int .u8 (y.toNat : Int)) (by rw [bcells, List.getElem?_map, List.getElem?_eq_getElem hiN, hy]; rfl)
   have hP := Lib.hid (hash1_any h y hh wr)
   have hE2 : Hid (hashGo (hashS h y) (b.drop (i + 1)) = R) := by
    show _ = R
    rw [← hE.out, List.drop_eq_getElem_cons hiN, hy]; rfl
   have hlt2 := hashS_lt h y
   generalize hashS h y = h2 at *
   clear hC2 hE hy
   go_wp2_with fail
   refine hP.out.mono ?_
   rintro e w2 ⟨rfl, rfl⟩
   go_wp2_with fail
   go_roundg gk
   case measure => omega
   case rel => exact ⟨i + 1, h2, rfl, by first | rfl | simp, by omega, hlt2, hE2, rfl⟩
set_option maxRecDepth 100000 in
set_option maxHeartbeats 4000000 in
theorem hash_any (A : Option Addr) (c : Nat) (b : Txt) (w : World) (hC : (Kd.int .u8).C w A b.length (ints b)) (hl : b.length < 100000000000) :
  Calls Tryz.prog 115 #[.slice A b.length c] w fun e w' => e = .returned (.int .u64 (hashL b : Int)) ∧ w' = w := by
 have hP := Lib.hid (fold_any A c b w hC 14695981039346656037 (by decide) hl)
 have hE : Hid (hashL b = hashGo 14695981039346656037 b) := rfl
 rw [hE.out]
 clear hC hE
 generalize hashGo 14695981039346656037 b = R at *
 generalize b.length = n at *
 go_enter Tryz.func115, Tryz.ntmps115
 go_wp2_with fail
 refine hP.out.mono ?_
 rintro e w1 ⟨rfl, rfl⟩
 go_wp2_with fail
 go_ret
 exact ⟨rfl, rfl⟩
theorem repeat_48 (k : Nat) : Lib.repeatL [48] k = List.replicate k 48 := by
 induction k with
 | zero => rfl
 | succ k ih => rw [Lib.repeatL, ih, List.replicate_succ]; rfl
theorem hexL_zero : ∀ f, hexL f 0 = List.replicate f 48
 | 0 => rfl
 | f + 1 => by rw [hexL, show 0 / 16 = 0 from rfl, hexL_zero f, List.replicate_succ']; rfl
theorem hexN_len : ∀ f u, (hexN f u).length ≤ f
 | 0, u => by simp [hexN]
 | f + 1, u => by
  rw [hexN]
  split
  ·simp
  ·have := hexN_len f (u / 16)
   rw [List.length_append, List.length_singleton]; omega
theorem hexL_N : ∀ f u, u < 16 ^ f → hexL f u = List.replicate (f - (hexN f u).length) 48 ++ hexN f u
 | 0, u, h => by simp [hexL, hexN]
 | f + 1, u, h => by
  rw [hexL, hexN]
  by_cases h16 : u < 16
  ·rw [if_pos h16, show u / 16 = 0 by omega, hexL_zero, Nat.mod_eq_of_lt h16]; rfl
  ·have h2 : u / 16 < 16 ^ f := by rw [Nat.div_lt_iff_lt_mul (by omega), ← Nat.pow_succ]; exact h
   rw [if_neg h16, hexL_N f (u / 16) h2, List.length_append, List.length_singleton, List.append_assoc]
   congr 2
   omega
theorem repeat_any (k : Nat) (hk : k ≤ 1000) (w : World) : Calls Tryz.prog 116 #[.string ⟨#[48]⟩, .int .i64 (k : Int)] w fun e w' => e = .returned (.string (B (List.replicate k 48))) ∧ Below w.heap.size w w' := by
 have := Tryz.strings_Repeat (B [48]) k w (by omega) (by rw [size_B]; show 1 * k ≤ _; omega)
 refine this.mono ?_
 rintro e w' ⟨rfl, hb⟩
 refine ⟨?_, hb⟩
 show Ending.returned (.string ⟨(Lib.repeatL [48] k).toArray⟩) = _
 rw [repeat_48]
set_option maxRecDepth 100000 in
set_option maxHeartbeats 8000000 in
theorem sum_any (K : CK) (hK : K.Ok) (w : World) (vf : Value) (m : Int) (hA : K.At w vf m) (ht : Tab w) :
  Calls Tryz.prog 90 #[at0 K.w0.heap.size] w (Gives (sumE K.v K.args) w) := by
 have hSE : Hid (sumE K.v K.args = if K.args = [] then none else (gatherE K.v [] K.args).map fun b => hexL 16 (hashL b) ++ [10]) := rfl
 generalize sumE K.v K.args = RR at *
 have hKH := Lib.hid hK
 have hAH := Lib.hid hA
 have htH := Lib.hid ht
 have c0 := (cell_of_heap (j := 0) hA.h).trans rfl
 have hcl := (Array.getElem?_eq_some_iff.1 hA.h).1
 obtain ⟨n, hn⟩ : ∃ n, K.args.length = n := ⟨_, rfl⟩
 have hNH := Lib.hid hn
 have hnn : n ≤ 100000 := hn ▸ hK.na
 obtain ⟨cb, hcb⟩ : ∃ n, K.w0.heap.size = n := ⟨_, rfl⟩
 have hCB := Lib.hid hcb
 obtain ⟨AA, hAA⟩ : ∃ A, K.Aa = A := ⟨_, rfl⟩
 have hAAH := Lib.hid hAA
 rw [hn, hcb, hAA] at c0
 rw [hcb] at hcl ⊢
 clear hAA hA hK hn hcb ht
 rcases Nat.eq_zero_or_pos n with h0 | h0
 ·subst h0
  have hd : decide ((0 : Int) < ((0 : Nat) : Int)) = false := by decide
  have hR : Hid (RR = none) := by show RR = _; rw [hSE.out, if_pos (List.length_eq_zero_iff.1 hNH.out)]
  go_enter Tryz.func90, Tryz.ntmps90
  go_wp2_with fail
  refine (need_no _).mono ?_
  rintro e w1 ⟨rfl, rfl⟩
  refine ⟨rfl, ?_⟩
  rw [hR.out]; exact ⟨Below.refl _ _, rfl⟩
 ·have hd : decide ((0 : Int) < (n : Int)) = true := by rw [decide_eq_true_iff]; omega
  have hd2 : decide ((n : Int) > 0) = true := hd
  obtain ⟨R, hR⟩ : ∃ R, gatherE K.v [] K.args = R := ⟨_, rfl⟩
  have hE0 : Hid (gatherE K.v [] (K.args.drop 0) = R) := hR
  have hRR : Hid (RR = R.map fun b => hexL 16 (hashL b) ++ [10]) := by
   show RR = _
   rw [hSE.out, if_neg (fun e => by have := congrArg List.length e; rw [hNH.out] at this; simp at this; omega), hR]
  clear hR hSE
  go_enter Tryz.func90, Tryz.ntmps90
  go_wp2_with fail
  refine (need_yes _).mono ?_
  rintro e w1 ⟨rfl, rfl⟩
  go_wp2_with fail
  go_loopg [3, 19] n (fun gk s3 s19 wr => ∃ (i : Nat) (out : Txt) (A : Option Addr) (c : Nat), s3 = .slice A out.length c ∧ s19 = .int .i64 (i : Int) ∧ i + gk = n ∧ out.length ≤ 100000 * i ∧ Hid (wr.ownsRow w.heap.size 5 1 (.slice A out.length c) out.length (bcells out)) ∧ Hid (gatherE K.v out (K.args.drop i) = R) ∧ Hid (Below w.heap.size w wr))
  case atStart => exact ⟨0, [], none, 0, rfl, rfl, Nat.zero_add _, by simp, World.ownsRow_nil _ _ _ _, hE0, Below.refl _ _⟩
  case round =>
   obtain ⟨i, out, A, c, rfl, rfl, hik, hol, hO, hE, hB⟩ := hrel
   cases gk with
   | zero =>
    obtain rfl : i = n := by omega
    have hlt : decide ((i : Int) < (i : Int)) = false := by simp
    have hR2 : Hid (R = some out) := by
     show R = _
     rw [← hE.out, List.drop_of_length_le (by rw [hNH.out]; omega), gatherE]
    obtain ⟨A2, c2, he, hlc, hC2⟩ := own_reads hO.out
    injection he with e1 e2 e3
    subst e1 e3
    have hH := Lib.hid (fun W hb => hash_any A c out W (Kd.C_below (w1 := W) hC2 hb) (by omega))
    have hHl : hashL out < 18446744073709551616 := hashGo_lt out _ (by decide)
    have htr := Lib.hid (htH.out.below hB.out)
    have hRF : Hid (RR = some (hexL 16 (hashL out) ++ [10])) := by show RR = _; rw [hRR.out, hR2.out]; rfl
    generalize hashL out = hv at *
    have hlen := hexN_len 16 hv
    have hxl : Hid (hexL 16 hv = List.replicate (16 - (hexN 16 hv).length) 48 ++ hexN 16 hv) := hexL_N 16 hv (by omega)
    have hF := Lib.hid (fun W hW => formatU_any hv hHl W hW)
    generalize hexN 16 hv = s at *
    obtain ⟨k, hk⟩ : ∃ k, 16 - s.length = k := ⟨_, rfl⟩
    have hKK := Lib.hid hk
    have hki : (16 : Int) - (s.length : Int) = (k : Int) := by omega
    have hk16 : k ≤ 16 := by omega
    have hsz : (B s).size = s.length := size_B s
    have hT : Hid (hexL 16 hv ++ [10] = List.replicate k 48 ++ s ++ [10]) := by show _ = _; rw [hxl.out, hKK.out]
    have hTl : (List.replicate k (48 : UInt8) ++ s ++ [10]).length ≤ 1000 := by simp; omega
    clear hk
    go_wp2_with fail
    refine (hH.out wr (Below.refl _ _)).mono ?_
    rintro e w2 ⟨rfl, rfl⟩
    go_wp2_with fail
    refine (hF.out _ htr.out).mono ?_
    rintro e w3 ⟨rfl, hb3⟩
    have hB3 := Lib.hid (hB.out.trans (hb3.mono hB.out.size))
    clear hb3
    go_wp2_with fail
    refine (repeat_any k (by omega) _).mono ?_
    rintro e w4 ⟨rfl, hb4⟩
    have hB4 := Lib.hid (hB3.out.trans (hb4.mono hB3.out.size))
    clear hb4
    have hcv := conv_gives (List.replicate k 48 ++ s ++ [10]) (B (List.replicate k 48) ++ B s ++ ⟨#[10]⟩) (by rw [B_append]; exact B_append _ [10]) w w4 (by omega) hB4.out
    have hcv1 := hcv.1
    have hcv2 := Lib.hid hcv.2
    clear hcv
    have hRG : Hid (RR = some (List.replicate k 48 ++ s ++ [10])) := by show RR = _; rw [hRF.out, hT.out]
    generalize List.replicate k 48 ++ s ++ [10] = TT at *
    have hpl : (List.replicate k (48 : UInt8)).length ≤ 16 := by rw [List.length_replicate]; exact hk16
    generalize List.replicate k (48 : UInt8) = pad at *
    have hsz2 : (B pad).size = pad.length := size_B pad
    have hsz3 : (B pad ++ B s).size = pad.length + s.length := by rw [ByteArray.size_append, hsz, hsz2]
    have hc1 : (9223372036854775807 < pad.length + s.length) = False := eq_false (by omega)
    have hc2 : (9223372036854775807 < (B pad).size + (B s).size) = False := eq_false (by omega)
    go_wp2_with fail
    go_ret
    rw [hRG.out]
    exact hcv2.out
   | succ gk =>
    have hiN : i < K.args.length := by rw [hNH.out]; omega
    have hlt : decide ((i : Int) < (n : Int)) = true := by rw [decide_eq_true_iff]; omega
    have hAi := Lib.hid (hAH.out.below hB.out)
    obtain ⟨ad, hAa, k0⟩ := text_at (Kd.C_below hKH.out.ra hAi.out.b) i hiN
    rw [hAAH.out] at hAa
    obtain ⟨y, hy⟩ : ∃ y, K.args[i] = y := ⟨_, rfl⟩
    have hP := Lib.hid (argument_any K hKH.out y wr vf m hAi.out)
    have hS : Hid (R = match argE K.v y with
     | none => none
     | some b => gatherE K.v (out ++ b) (K.args.drop (i + 1))) := by
     show R = _
     rw [← hE.out, List.drop_eq_getElem_cons hiN, hy, gatherE]
     try rfl
    rw [hy] at k0
    rw [hCB.out] at hP
    subst hAa
    clear hy hE
    go_wp2_with fail
    refine hP.out.mono ?_
    rintro e w2 ⟨hb2, hPP⟩
    have hB2 := Lib.hid (hB.out.trans (hb2.mono hB.out.size))
    cases ha : argE K.v y with
    | none =>
     rw [ha] at hPP
     obtain rfl : e = fl := hPP
     refine ⟨rfl, ?_⟩
     rw [hRR.out, hS.out, ha]
     exact ⟨hB2.out, rfl⟩
    | some b =>
     rw [ha] at hPP
     obtain ⟨v, rfl, ho2⟩ := hPP
     obtain ⟨A2, c2, rfl, hlc, hC2⟩ := own_reads ho2
     have hbl : b.length ≤ 100000 := arg_len ha hKH.out.lf
     have hO2 := Lib.hid (own_move hO.out (w1 := w2) (fun k hk => hb2.block k (own_lt hO.out k hk)))
     have hC2H := Lib.hid hC2
     have hbase : w.heap.size ≤ w2.heap.size := hB2.out.size
     clear ho2 hC2 hb2 hlc
     go_wp2_with (at_builtin; refine print_append_row (w0 := w) w.heap.size rfl _ _ 37 5 .u8 1 rfl Tryz.underlying37 info5 (by decide) _ (ints out) (ints b) A2 b.length c2 rfl rfl (own_num.1 hO2.out) ?hr hB2.out hbase ?hl ?_)
     case hr => exact reads_int hC2H.out
     case hl => rw [ints_len]; omega
     intro v1 w3 hown hB3' hg _
     have hO3 := Lib.hid (nums_of hown)
     have hB3 := Lib.hid hB3'
     obtain ⟨A3, c3, rfl, _, _⟩ := own_reads hO3.out
     have hE3 : Hid (gatherE K.v (out ++ b) (K.args.drop (i + 1)) = R) := by
      show _ = R
      rw [hS.out, ha]
     have hol3 : (out ++ b).length ≤ 100000 * (i + 1) := by rw [List.length_append]; omega
     clear hown hB3' hg
     generalize out ++ b = ob at *
     go_wp2_with fail
     go_roundg gk
     case measure => omega
     case rel => exact ⟨i + 1, ob, A3, c3, rfl, by first | rfl | simp, by omega, hol3, hO3, hE3, hB3⟩
end Go.Proofs.YtnegfigaiomehaaGreatDoor.Ck
end
