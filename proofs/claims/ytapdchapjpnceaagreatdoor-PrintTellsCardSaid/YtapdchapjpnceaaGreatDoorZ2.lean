/- Laid together by wip/tools/shake.py from texts of this claim: Range, U, Shelf, Split, PathPlain, PathPred, Clean, PathTh, P0, PPathRight0, PathFsD, PrPaths, PrJoin, PrConcat, Idx, PrPlain, PrRight, PPrintRow0, Once, OnceDo, EscPlain, RegG, RepF, NewRep, RepBuild, Escape, PrEscape, PrItoa. -/
import Derived.Test.YtapdchapjpnceaaGreatDoorZ1
import Derived.RangeFuncNested
import Derived.RangeFuncBound
import Derived.RangeFuncCalls
import Derived.RangeFuncLeaves
import Derived.RangeFuncBox
import Derived.RangeFuncWrites
import Derived.Shelf.Abstract
import Derived.Shelf.RegionOpen
import Derived.WalkKit
import Derived.OwnWalkIn
import Derived.TacticsInMore
import Derived.LoopNIn
import Derived.LoopIn
import Derived.Maps.AppendAt
import Derived.Test.YtapdchapjpnceaaGreatDoorProg
import Derived.Lib.Hide
import Derived.Shelf.Strings.Builder1
import Derived.Shelf.Strings.Builder2
import Derived.Shelf.Strings.OnBuilder
import Derived.Shelf.Small.Utf8
import Derived.Shelf.Small.Strs
import Derived.Shelf.Strings.BuilderF
import Derived.Shelf.Strings.BuilderK
import Derived.Shelf.Strings.Builder2Cap
import Derived.Shelf.Strconv.Itoa0
import Derived.Shelf.Strconv.Itoa1
import Derived.Shelf.LaysM
import Derived.Shelf.Strconv.Itoa2
import Derived.Shelf.Strconv.Itoa3
import Derived.Shelf.Strings.Search1
import Derived.Shelf.Strings.Search2
import Derived.Shelf.Strings.Search3
import Derived.Shelf.Strings.Count
import Derived.Shelf.Strings.Shaped
import Derived.Shelf.GgClosure.StringsIndexFunc
import Derived.Ground.GgwProg
import Derived.Shelf.GgClosure.StringsIndexFuncTop
import Derived.Shelf.Strings.Prefix
import Derived.Shelf.Strings.Split
import Derived.Shelf.Strings.Runes
import Derived.Shelf.Unicode.DecodeSlow
import Derived.Shelf.Unicode.DecodeAny
import Derived.Shelf.Strings.FuncGrows
import Derived.Shelf.Strings.BuilderCap
import Derived.Sort.LoopGhostIn
import Derived.Outline
import Derived.OneCell
import Derived.WalkSpells
import Derived.Laws.Runes
import Derived.Lib.TrimAscii
import Derived.Deep.QuietTactic
import Derived.BigQuiet
import Derived.RegionTactic
import Derived.Deep.RegionWith
import Derived.WalkSmall
import Derived.Deep.DeepMust
import Derived.Below
import Derived.Deep.Draws
import Derived.Deep.AppendLies
import Derived.OwnWalk
import Derived.Laws.BytesArg
import Derived.Laws.MakeOwn
import Derived.Laws.OwnMore
import Derived.Deep.OwnRows
import Derived.Tactics
import Derived.Lib.ConvBytes
import Derived.Laws.Slices
import Derived.KernelRfl
import Derived.RowKit3
import Derived.Deep.LoopGhost
import Derived.WideLaws
import Derived.Deep.DeepCutAuto
import Derived.Deep.CutBlock
import Derived.Deep.RegionHeld3
import Derived.Laws.Rows
import Derived.Lib.AppendStr
import Derived.ArgAppend
import Derived.Laws.IdiomCopy
import Derived.OrdersHeld
import Derived.Laws.BitsLemmas
import Derived.RowKit
import Derived.Laws.AppendOwn
import Derived.Lib.AppendZerosOnto
import Derived.Tactics2
import Derived.Defers
import Derived.Laws.Pointers
import Derived.Laws.LoneSync
import Derived.RegionCalls
import Derived.ChangeAlike
import Derived.Lib.SlBuf
import Derived.Laws.Cover3
import Derived.Laws.Tables
import Derived.Laws.CopyOwn
import Derived.Lib.BufferMore
section
set_option linter.unusedSimpArgs false
set_option linter.unusedVariables false
namespace Go.Proofs.YtapdchapjpnceaaGreatDoor.Rng
open Go.RowKit Go.Shelf
variable {P : Program}
def Kept3 (b : Nat) (W W' : World) : Prop := W'.heap[b]? = W.heap[b]? ∧ W'.heap[b + 1]? = W.heap[b + 1]? ∧ W'.heap[b + 2]? = W.heap[b + 2]?
theorem Kept3.refl (b : Nat) (W : World) : Kept3 b W W := ⟨rfl, rfl, rfl⟩
theorem Kept3.trans {b : Nat} {A B C : World} (h : Kept3 b A B) (k : Kept3 b B C) : Kept3 b A C := ⟨k.1.trans h.1, k.2.1.trans h.2.1, k.2.2.trans h.2.2⟩
theorem Kept3.putObj {b l : Nat} (W : World) (o : Obj) (h : b + 2 < l) : Kept3 b W (W.putObj l o) :=
  ⟨World.putObj_heap_other (by omega), World.putObj_heap_other (by omega), World.putObj_heap_other (by omega)⟩
def SeqOf (P : Program) (gf : Nat) (lb : Array Value) (b : Nat) (xs : List ByteArray) (w : World) : Prop :=
  ∀ (l : Nat) (J Jx : List ByteArray → World → Prop) (W : World), Below w.heap.size w W →
    (∀ pre W1 u, J pre W1 → J pre (W1.setCell ⟨b, 0, none⟩ u)) →
    (∀ pre x W1, J pre W1 → (pre ++ [x]) <+: xs → YieldAt Fence.wide 1 P l #[.string x] W1 fun e W' =>
      (e = .returned (.bool true) ∧ J (pre ++ [x]) W' ∧ Kept3 b W1 W') ∨ (e = .returned (.bool false) ∧ Jx (pre ++ [x]) W')) →
    J [] W →
    CallsIn Fence.wide 2 P gf (#[.func (.yield l) #[] #[]] ++ lb) W fun e W' => (∃ v, e = .returned v) ∧ (J xs W' ∨ ∃ pre, pre <+: xs ∧ Jx pre W')
theorem wp_range_str {g : Operand} {p : Tmp} {assign body : Code} {Q : Exit → Act → World → Prop} {a : Act} {w : World} {gf : Nat} {lb : Array Value} {b : Nat} {xs : List ByteArray} {w0 : World}
    (hg : a.eval g = .func (.func gf) #[] lb) (eg : ∀ args w, (callFunc gf args).run P w = .ok (.enter gf args) w)
    (hseq : SeqOf P gf lb b xs w0) (hb0 : Below w0.heap.size w0 w) (hbw : b + 2 < w.heap.size)
    (I : List ByteArray → World → Prop) (Ix : Code → List ByteArray → World → Prop) (hI : OwnFrom w.heap.size I) (hIx : ∀ c, OwnFrom w.heap.size (Ix c))
    (hIs : ∀ pre W u, I pre W → I pre (W.setCell ⟨b, 0, none⟩ u)) (h0 : I [] w) (a₁ : ByteArray → Act)
    (hassign : ∀ (l : Nat) (x : ByteArray) (W : World) (K : Act → World → Prop), K (a₁ x) W →
      assign.wpIn (Fence.wide.inRound l) 1 P (Exit.then K (fun _ _ _ => False)) { tmps := (#[p].zip #[Value.string x]).foldl (fun t (p, v) => t.setIfInBounds p v) a.tmps, defers := [] } W)
    (hbody : ∀ (l : Nat) (pre : List ByteArray) (x : ByteArray) (W : World), I pre W → (pre ++ [x]) <+: xs → body.wpIn (Fence.wide.inRound l) 1 P (ownPostG w.heap.size (Kept3 b) I Ix (pre ++ [x]) W) (a₁ x) W)
    (hdone : ∀ (D : Nat) (W : World), w.heap.size ≤ D → I xs W → W.heap[D]? = some (.deferred (some [])) → Q .normal { a with defers := { target := .collected D, args := #[] } :: a.defers } W)
    (hstop : ∀ (D : Nat) (c : Code) (pre : List ByteArray) (W : World), w.heap.size ≤ D → pre <+: xs → Ix c pre W → W.heap[D]? = some (.deferred (some [])) → c.wpIn Fence.wide 3 P Q { a with defers := { target := .collected D, args := #[] } :: a.defers } W) :
    (Code.rangeFunc g #[p] assign body).wpIn Fence.wide 3 P Q a w := by
  refine wpIn_rangeFunc ?_
  intro fn hfn
  obtain ⟨rec, hrec⟩ : ∃ rec : LoopState → Option Code → Loop, rec = fun st pe => { state := st, pending := pe, fn, tmps := a.tmps, params := #[p], assign, body, defers := w.heap.size } := ⟨_, rfl⟩
  obtain ⟨W1, hW1⟩ : ∃ W1, (w.alloc (.deferred (some []))).alloc (.loop (rec .ready none)) = W1 := ⟨_, rfl⟩
  have hL1 : W1.heap[w.heap.size + 1]? = some (.loop (rec .ready none)) := by
    rw [← hW1]; have := World.alloc_heap_new (w.alloc (.deferred (some []))) (.loop (rec .ready none)); rwa [World.size_alloc] at this
  have hD1 : W1.heap[w.heap.size]? = some (.deferred (some [])) := by
    rw [← hW1]; exact (Below.heap_alloc _ _ _ (by simp)).trans (World.alloc_heap_new w _)
  have hI1 : I [] W1 := by rw [← hW1]; exact hI.alloc _ (hI.alloc _ h0)
  have hb1 : Below w0.heap.size w0 W1 := by
    rw [← hW1]; exact hb0.trans ((((Below.refl _ w).alloc (Nat.le_refl _) _).alloc (by simp) _).mono hb0.size)
  refine ⟨w.heap.size + 1, [{ target := .collected w.heap.size, args := #[] }], W1, { target := .fn (.func gf) lb, args := #[.func (.yield (w.heap.size + 1)) #[] #[]] }, W1, gf,
    #[.func (.yield (w.heap.size + 1)) #[] #[]] ++ lb, W1, ?_, ?_, ?_, ?_, fun _ => by omega, ?_⟩
  · rw [← hW1, hrec]; exact run_enterLoop_outer _ _ _ _ _
  · simp only [resolve, hg]
    simp [go_sem]
  · intro f' hf'; trivial
  · simp [invoke, go_sem, eg]
  · refine (hseq (w.heap.size + 1)
      (fun pre W => I pre W ∧ W.heap[w.heap.size + 1]? = some (.loop (rec .ready none)) ∧ W.heap[w.heap.size]? = some (.deferred (some [])))
      (fun pre W => ∃ c, Ix c pre W ∧ W.heap[w.heap.size + 1]? = some (.loop (rec .done (some c))) ∧ W.heap[w.heap.size]? = some (.deferred (some [])))
      W1 hb1
      (fun pre W u hs => ⟨hIs pre W u hs.1, (KeepsOthers.setCell W _ u).same _ _ hs.2.1 rfl, (KeepsOthers.setCell W _ u).same _ _ hs.2.2 rfl⟩)
      ?_ ⟨hI1, hL1, hD1⟩).mono ?_
    · rintro pre x W ⟨hi, hl, hk⟩ hpx
      have hlt : w.heap.size + 1 < W.heap.size := (Array.getElem?_eq_some_iff.1 hl).1
      have hy := run_yield (P := P) (args := #[.string x]) hl (by rw [hrec]; rfl)
      rw [hrec] at hy
      refine ⟨fn, _, assign, body, hy, roundIn_of_wpIn hfn (hassign _ x W _ ⟨_, run_beginRound hl (by rw [hrec]), ?_⟩)⟩
      obtain ⟨W2, hW2⟩ : ∃ W2, W.putObj (w.heap.size + 1) (.loop { rec .ready none with state := .busy }) = W2 := ⟨_, rfl⟩
      have hl2 : W2.heap[w.heap.size + 1]? = some (.loop { rec .ready none with state := .busy }) := by rw [← hW2]; exact World.putObj_heap_same hlt
      have hk2 : W2.heap[w.heap.size]? = some (.deferred (some [])) := by rw [← hW2]; exact (World.putObj_heap_other (by omega)).trans hk
      have hs2 : Kept3 b W W2 := by rw [← hW2]; exact Kept3.putObj _ _ (by omega)
      have hi2 : I pre W2 := by rw [← hW2]; exact hI.putObj _ hi (by omega) hl rfl
      rw [hW2]
      refine wpIn_mono (hbody _ pre x _ hi2 hpx) ?_
      have fin : ∀ (jump : Option Code) (W3 : World), KeepsFrom w.heap.size W2 W3 →
          (Instr.endRound (w.heap.size + 1) jump).run P W3 = .ok (.bool jump.isNone) (W3.putObj (w.heap.size + 1) (.loop (rec (if jump.isNone then .ready else .done) jump))) ∧
          W3.heap[w.heap.size + 1]? = some (.loop { rec .ready none with state := .busy }) ∧
          (W3.putObj (w.heap.size + 1) (.loop (rec (if jump.isNone then .ready else .done) jump))).heap[w.heap.size + 1]? = some (.loop (rec (if jump.isNone then .ready else .done) jump)) ∧
          (W3.putObj (w.heap.size + 1) (.loop (rec (if jump.isNone then .ready else .done) jump))).heap[w.heap.size]? = some (.deferred (some [])) := fun jump W3 hk3 => by
        have hl3 := hk3.same _ _ (by omega) hl2 rfl
        have h := run_endRound (P := P) jump hl3
        rw [hrec] at h ⊢
        exact ⟨h, by rw [hrec] at hl3; exact hl3, World.putObj_heap_same (Array.getElem?_eq_some_iff.1 hl3).1, (World.putObj_heap_other (by omega)).trans (hk3.same _ _ (Nat.le_refl _) hk2 rfl)⟩
      have out : ∀ (c : Code) (W3 : World), KeepsFrom w.heap.size W2 W3 → Ix c (pre ++ [x]) W3 → ∃ c', Ix c' (pre ++ [x]) (W3.putObj (w.heap.size + 1) (.loop (rec .done (some c)))) ∧
          (W3.putObj (w.heap.size + 1) (.loop (rec .done (some c)))).heap[w.heap.size + 1]? = some (.loop (rec .done (some c'))) ∧ (W3.putObj (w.heap.size + 1) (.loop (rec .done (some c)))).heap[w.heap.size]? = some (.deferred (some [])) := fun c W3 hk3 hx3 => by
        obtain ⟨_, hl3, hl4, hk4⟩ := fin (some c) W3 hk3
        exact ⟨c, (hIx c).putObj _ hx3 (by omega) hl3 rfl, hl4, hk4⟩
      rintro e a3 W3 hp
      cases e with
      | normal =>
        obtain ⟨hk3, hkp3, hi3⟩ := hp
        obtain ⟨hr, hl3, hl4, hk4⟩ := fin none W3 hk3
        exact ⟨_, _, hr, .inl ⟨rfl, ⟨hI.putObj _ hi3 (by omega) hl3 rfl, hl4, hk4⟩, (hs2.trans hkp3).trans (Kept3.putObj _ _ (by omega))⟩⟩
      | ret => exact ⟨_, _, (fin (some .ret) W3 hp.1).1, .inr ⟨rfl, out .ret W3 hp.1 hp.2⟩⟩
      | exit id => exact ⟨_, _, (fin (some (.exit id)) W3 hp.1).1, .inr ⟨rfl, out (.exit id) W3 hp.1 hp.2⟩⟩
      | goto t => exact ⟨_, _, (fin (some (.goto t)) W3 hp.1).1, .inr ⟨rfl, out (.goto t) W3 hp.1 hp.2⟩⟩
      | panic ch => exact hp.elim
      | outgrown => exact hp.elim
    · rintro e W2 ⟨⟨v, rfl⟩, (⟨hi, hl, hk⟩ | ⟨pre, hSp, c, hi, hl, hk⟩)⟩
      · exact ⟨none, _, by have h := run_endLoop (P := P) hl (by rw [hrec]; simp); rw [hrec] at h; exact h, hdone _ _ (Nat.le_refl _) (hI.putObj _ hi (by omega) hl rfl) ((World.putObj_heap_other (by omega)).trans hk)⟩
      · exact ⟨some c, _, by have h := run_endLoop (P := P) hl (by rw [hrec]; simp); rw [hrec] at h; exact h, hstop _ c pre _ (Nat.le_refl _) hSp ((hIx c).putObj _ hi (by omega) hl rfl) ((World.putObj_heap_other (by omega)).trans hk)⟩
end Go.Proofs.YtapdchapjpnceaaGreatDoor.Rng
end
section
set_option linter.unusedSimpArgs false
set_option linter.unusedVariables false
namespace Go.Proofs.YtapdchapjpnceaaGreatDoor.U
open Go.RowKit Go.Proofs.YtapdchapjpnceaaGreatDoorW.PrintWords
abbrev B (l : List UInt8) : ByteArray := ⟨l.toArray⟩
theorem toList_B (l : List UInt8) : (B l).toList = l := by rw [ByteArray.toList_eq]
theorem data_B (l : List UInt8) : (B l).data.toList = l := rfl
theorem size_B (l : List UInt8) : (B l).size = l.length := by simp [ByteArray.size]
theorem B_of (s : ByteArray) : s = B s.data.toList := by cases s; simp [B]
theorem B_inj {a b : List UInt8} (h : B a = B b) : a = b := by
  have := congrArg (fun s => s.data.toList) h
  simpa using this
theorem B_append (a b : List UInt8) : B a ++ B b = B (a ++ b) := by
  apply ByteArray.ext
  rw [ByteArray.data_append]
  simp [B]
theorem extract_B (l : List UInt8) (a b : Nat) : (B l).extract a b = B ((l.take b).drop a) := by
  apply ByteArray.ext
  rw [ByteArray.data_extract]
  simp [B, List.extract_eq_take_drop, List.drop_take]
theorem bt_B (l : List UInt8) (i : Nat) (h : i < l.length) : bt (B l) (i : Int) = (l[i].toNat : Int) := by
  have h' : ((i : Int).toNat) < (B l).size := by rw [size_B]; simpa using h
  rw [← bt_at (B l) (i : Int) h']
  rfl
theorem bt_mid (p : List UInt8) (c : UInt8) (r : List UInt8) : bt (B (p ++ c :: r)) (p.length : Int) = (c.toNat : Int) := by
  rw [bt_B _ _ (by simp)]; simp
theorem toNat_eq (c : UInt8) (n : Nat) (hn : n < 256) : ((c.toNat : Int) = (n : Int)) ↔ c = UInt8.ofNat n := by
  constructor
  · intro h
    apply UInt8.toNat_inj.1
    have : c.toNat = n := by omega
    rw [this]; simp [Nat.mod_eq_of_lt hn]
  · rintro rfl
    simp [Nat.mod_eq_of_lt hn]
theorem wrap_id (x : Int) (h0 : -9223372036854775808 ≤ x) (h1 : x ≤ 9223372036854775807) : wrap64 x = x := by
  unfold wrap64; omega
theorem wrap_succ (i : Nat) (h : i < 4611686018427387904) : wrap64 ((i : Int) + 1) = ((i + 1 : Nat) : Int) := by
  rw [wrap_id _ (by omega) (by omega)]; rfl
theorem wrapH (i : Nat) (h : i < 4611686018427387904) : Hid (wrap64 ((i : Int) + 1) = ((i + 1 : Nat) : Int)) := wrap_succ i h
theorem byte_ne {c d : UInt8} (h : c ≠ d) : ¬ (c.toNat : Int) = (d.toNat : Int) := fun e => h (UInt8.toNat_inj.1 (by omega))
theorem rdOf_B (xs : List ByteArray) (i : Nat) (h : i < xs.length) : rdOf ByteArray.empty xs (i : Int) = xs[i] := by
  simp [rdOf, List.getD_eq_getElem?_getD, h]
theorem Ev.unroll {α : Type} {g : Nat → Option α} {r : α} (h : Ev (fun k => g (k + 1)) r) : Ev g r := Ev.step (fun _ => rfl) h
theorem Ev.some {α : Type} {g : Nat → Option α} {r : α} (h : ∀ k, g k = Option.some r) : Ev g r := ⟨0, fun k _ => h k⟩
theorem Ev.eqn {α : Type} {g : Nat → Option α} {r r' : α} (h : Ev g r) (e : r = r') : Ev g r' := e ▸ h
end Go.Proofs.YtapdchapjpnceaaGreatDoor.U
end
section
namespace Go.Proofs
open Go.Shelf
def Tryz.lays170_ren : Go.Shelf.Ren := ⟨fun | 170 => 14 | n => n, fun | 70 => 39 | 3 => 3 | 0 => 0 | 72 => 42 | 37 => 40 | 5 => 5 | n => n, fun | n => n⟩
theorem Tryz.lays170 : Go.Proofs.Lays.n170 Tryz.prog Tryz.lays170_ren := {
  mixed := by kernel_rfl
  f170 := Tryz.func14.trans (congrArg some (by kernel_rfl))
  t0 := Tryz.underlying0
  a0 := Tryz.isAgg0
  z0 := Tryz.sizeOf0
  v0 := Tryz.zeroValue0
  t3 := Tryz.underlying3
  a3 := Tryz.isAgg3
  z3 := Tryz.sizeOf3
  v3 := Tryz.zeroValue3
  t37 := Tryz.underlying40
  a37 := Tryz.isAgg40
  z37 := Tryz.sizeOf40
  v37 := Tryz.zeroValue40
  t70 := Tryz.underlying39
  a70 := Tryz.isAgg39
  z70 := Tryz.sizeOf39
  v70 := Tryz.zeroValue39
  t72 := Tryz.underlying42
  a72 := Tryz.isAgg42
  z72 := Tryz.sizeOf42
  v72 := Tryz.zeroValue42 }
open Go.RowKit in
theorem Tryz.Builder_Len (B b : Nat) (bs : List Value) (w : World) (h : Lib.IsBuilder 42 5 B b bs w) :
    Calls Tryz.prog 14 #[.pointer (some ⟨b, 0, none⟩)] w fun e w' => e = .returned (.int .i64 bs.length) ∧ w' = w := Any.Builder_Len Tryz.lays170 B b bs w h
def Tryz.lays169_ren : Go.Shelf.Ren := ⟨fun | 169 => 15 | n => n, fun | 70 => 39 | 9 => 9 | 0 => 0 | 72 => 42 | 37 => 40 | 127 => 61 | 3 => 3 | 5 => 5 | n => n, fun | n => n⟩
theorem Tryz.lays169 : Go.Proofs.Lays.n169 Tryz.prog Tryz.lays169_ren := {
  mixed := by kernel_rfl
  f169 := Tryz.func15.trans (congrArg some (by kernel_rfl))
  t0 := Tryz.underlying0
  a0 := Tryz.isAgg0
  z0 := Tryz.sizeOf0
  v0 := Tryz.zeroValue0
  t3 := Tryz.underlying3
  a3 := Tryz.isAgg3
  z3 := Tryz.sizeOf3
  v3 := Tryz.zeroValue3
  t9 := Tryz.underlying9
  a9 := Tryz.isAgg9
  z9 := Tryz.sizeOf9
  v9 := Tryz.zeroValue9
  t37 := Tryz.underlying40
  a37 := Tryz.isAgg40
  z37 := Tryz.sizeOf40
  v37 := Tryz.zeroValue40
  t70 := Tryz.underlying39
  a70 := Tryz.isAgg39
  z70 := Tryz.sizeOf39
  v70 := Tryz.zeroValue39
  t72 := Tryz.underlying42
  a72 := Tryz.isAgg42
  z72 := Tryz.sizeOf42
  v72 := Tryz.zeroValue42
  t127 := Tryz.underlying61
  a127 := Tryz.isAgg61
  z127 := Tryz.sizeOf61
  v127 := Tryz.zeroValue61 }
theorem Tryz.Builder_Extra_169 : Builder.Extra Tryz.prog Tryz.lays169_ren := {
  sizeBuilder := by kernel_rfl
  liesBuilder := by kernel_rfl
  t5 := Tryz.underlying5
  a5 := Tryz.isAgg5
  z5 := Tryz.sizeOf5
  v5 := Tryz.zeroValue5
  infoByte := by kernel_rfl
  cellsByte := by kernel_rfl
  sizeByte := by kernel_rfl
  neB5 := by decide }
open Go.RowKit in
theorem Tryz.Builder_String_any (B b : Nat) (l : List UInt8) (w : World) (h : Lib.IsBuilder 42 5 B b (Lib.byteCells l) w) (hBw : B ≤ w.heap.size) :
    Calls Tryz.prog 15 #[.pointer (some ⟨b, 0, none⟩)] w fun e w' => e = .returned (.string ⟨l.toArray⟩) ∧ Below B w w' := Any.Builder_String_any Tryz.lays169 Tryz.Builder_Extra_169 B b l w h hBw
def Tryz.lays156_ren : Go.Shelf.Ren := ⟨fun | 156 => 28 | 165 => 40 | 166 => 11 | 169 => 15 | 240 => 25 | 241 => 50 | 276 => 36 | 277 => 63 | n => n, fun | 31 => 23 | 9 => 9 | 3 => 3 | 4 => 4 | 0 => 0 | 20 => 20 | 72 => 42 | 76 => 46 | 70 => 39 | 37 => 40 | 75 => 45 | 127 => 61 | 164 => 68 | 5 => 5 | 80 => 51 | n => n, fun | n => n⟩
theorem Tryz.lays156 : Go.Proofs.Lays.n156 Tryz.prog Tryz.lays156_ren := {
  mixed := by kernel_rfl
  f156 := Tryz.func28.trans (congrArg some (by kernel_rfl))
  f165 := Tryz.func40.trans (congrArg some (by kernel_rfl))
  f166 := Tryz.func11.trans (congrArg some (by kernel_rfl))
  f169 := Tryz.func15.trans (congrArg some (by kernel_rfl))
  f240 := Tryz.func25.trans (congrArg some (by kernel_rfl))
  f241 := Tryz.func50.trans (congrArg some (by kernel_rfl))
  f276 := Tryz.func36.trans (congrArg some (by kernel_rfl))
  f277 := Tryz.func63.trans (congrArg some (by kernel_rfl))
  t0 := Tryz.underlying0
  a0 := Tryz.isAgg0
  z0 := Tryz.sizeOf0
  v0 := Tryz.zeroValue0
  t3 := Tryz.underlying3
  a3 := Tryz.isAgg3
  z3 := Tryz.sizeOf3
  v3 := Tryz.zeroValue3
  t4 := Tryz.underlying4
  a4 := Tryz.isAgg4
  z4 := Tryz.sizeOf4
  v4 := Tryz.zeroValue4
  t9 := Tryz.underlying9
  a9 := Tryz.isAgg9
  z9 := Tryz.sizeOf9
  v9 := Tryz.zeroValue9
  t20 := Tryz.underlying20
  a20 := Tryz.isAgg20
  z20 := Tryz.sizeOf20
  v20 := Tryz.zeroValue20
  t31 := Tryz.underlying23
  a31 := Tryz.isAgg23
  z31 := Tryz.sizeOf23
  v31 := Tryz.zeroValue23
  t37 := Tryz.underlying40
  a37 := Tryz.isAgg40
  z37 := Tryz.sizeOf40
  v37 := Tryz.zeroValue40
  t70 := Tryz.underlying39
  a70 := Tryz.isAgg39
  z70 := Tryz.sizeOf39
  v70 := Tryz.zeroValue39
  t72 := Tryz.underlying42
  a72 := Tryz.isAgg42
  z72 := Tryz.sizeOf42
  v72 := Tryz.zeroValue42
  t75 := Tryz.underlying45
  a75 := Tryz.isAgg45
  z75 := Tryz.sizeOf45
  v75 := Tryz.zeroValue45
  t76 := Tryz.underlying46
  a76 := Tryz.isAgg46
  z76 := Tryz.sizeOf46
  v76 := Tryz.zeroValue46
  t127 := Tryz.underlying61
  a127 := Tryz.isAgg61
  z127 := Tryz.sizeOf61
  v127 := Tryz.zeroValue61
  t164 := Tryz.underlying68
  a164 := Tryz.isAgg68
  z164 := Tryz.sizeOf68
  v164 := Tryz.zeroValue68 }
theorem Tryz.Builder_Extra_156 : Builder.Extra Tryz.prog Tryz.lays156_ren := {
  sizeBuilder := by kernel_rfl
  liesBuilder := by kernel_rfl
  t5 := Tryz.underlying5
  a5 := Tryz.isAgg5
  z5 := Tryz.sizeOf5
  v5 := Tryz.zeroValue5
  infoByte := by kernel_rfl
  cellsByte := by kernel_rfl
  sizeByte := by kernel_rfl
  neB5 := by decide }
open Go.RowKit in
theorem Tryz.strings_Join_none (a : Option Addr) (c : Nat) (sep : ByteArray) (w : World) :
    Calls Tryz.prog 28 #[.slice a 0 c, .string sep] w fun e w' => e = .returned (.string ⟨#[]⟩) ∧ w' = w := Any.strings_Join_none Tryz.lays156 Tryz.Builder_Extra_156 a c sep w
open Go.RowKit in
theorem Tryz.strings_Join (bk o c : Nat) (xs : List ByteArray) (sep : ByteArray) (w : World) (hcells : ∀ (j : Nat) x, xs[j]? = some x → w.cell? ⟨bk, o + j, none⟩ = some (.string x)) (hbk : bk < w.heap.size) (hN : xs.length ≤ 140737488355328) (hcap : xs.length ≤ c) (hlen : (Lib.join (xs.map (·.data.toList)) sep.data.toList).length ≤ 140737488355328) :
    Calls Tryz.prog 28 #[.slice (some ⟨bk, o, none⟩) xs.length c, .string sep] w fun e w' => e = .returned (.string ⟨(Lib.join (xs.map (·.data.toList)) sep.data.toList).toArray⟩) ∧ Below w.heap.size w w' := Any.strings_Join Tryz.lays156 Tryz.Builder_Extra_156 bk o c xs sep w hcells hbk hN hcap hlen
def Tryz.lays119_ren : Go.Shelf.Ren := ⟨fun | 119 => 92 | n => n, fun | 21 => 21 | 4 => 4 | n => n, fun | n => n⟩
theorem Tryz.lays119 : Go.Proofs.Lays.n119 Tryz.prog Tryz.lays119_ren := {
  mixed := by kernel_rfl
  f119 := Tryz.func92.trans (congrArg some (by kernel_rfl))
  t4 := Tryz.underlying4
  a4 := Tryz.isAgg4
  z4 := Tryz.sizeOf4
  v4 := Tryz.zeroValue4
  t21 := Tryz.underlying21
  a21 := Tryz.isAgg21
  z21 := Tryz.sizeOf21
  v21 := Tryz.zeroValue21 }
theorem Tryz.utf8_ValidRune (r : Int) (w : World) :
    Calls Tryz.prog 92 #[.int .i32 r] w fun e w' => e = .returned (.bool (Lib.validRune r)) ∧ w' = w := Any.utf8_ValidRune Tryz.lays119 r w
def Tryz.lays137_ren : Go.Shelf.Ren := ⟨fun | 137 => 91 | 217 => 106 | 266 => 115 | n => n, fun | 9 => 9 | 5 => 5 | 3 => 3 | n => n, fun | n => n⟩
theorem Tryz.lays137 : Go.Proofs.Lays.n137 Tryz.prog Tryz.lays137_ren := {
  mixed := by kernel_rfl
  f137 := Tryz.func91.trans (congrArg some (by kernel_rfl))
  f217 := Tryz.func106.trans (congrArg some (by kernel_rfl))
  f266 := Tryz.func115.trans (congrArg some (by kernel_rfl))
  t3 := Tryz.underlying3
  a3 := Tryz.isAgg3
  z3 := Tryz.sizeOf3
  v3 := Tryz.zeroValue3
  t5 := Tryz.underlying5
  a5 := Tryz.isAgg5
  z5 := Tryz.sizeOf5
  v5 := Tryz.zeroValue5
  t9 := Tryz.underlying9
  a9 := Tryz.isAgg9
  z9 := Tryz.sizeOf9
  v9 := Tryz.zeroValue9 }
open Go.RowKit in
theorem Tryz.strings_IndexByte (s : ByteArray) (c : Int) (w : World) :
    Calls Tryz.prog 91 #[.string s, .int .u8 c] w fun e w' => e = .returned (.int .i64 (Lib.indexByte s.data.toList c.toNat.toUInt8)) ∧ w' = w := Any.strings_IndexByte Tryz.lays137 s c w
def Tryz.lays171_ren : Go.Shelf.Ren := ⟨fun | 171 => 26 | 243 => 37 | 246 => 47 | 283 => 56 | 284 => 57 | 285 => 58 | 286 => 59 | 129 => 69 | 317 => 68 | 318 => 70 | 319 => 71 | 320 => 72 | 337 => 83 | 338 => 84 | n => n, fun | 3 => 3 | 9 => 9 | 2 => 2 | 4 => 4 | 171 => 102 | 0 => 0 | 53 => 103 | 37 => 40 | 5 => 5 | 173 => 106 | 212 => 116 | 51 => 83 | 20 => 20 | 213 => 117 | 46 => 119 | 232 => 156 | 233 => 157 | n => n, fun | 17 => 0 | 18 => 2 | 19 => 3 | n => n⟩
theorem Tryz.lays171 : Go.Proofs.Lays.n171 Tryz.prog Tryz.lays171_ren := {
  mixed := by kernel_rfl
  f129 := Tryz.func69.trans (congrArg some (by kernel_rfl))
  f171 := Tryz.func26.trans (congrArg some (by kernel_rfl))
  f243 := Tryz.func37.trans (congrArg some (by kernel_rfl))
  f246 := Tryz.func47.trans (congrArg some (by kernel_rfl))
  f283 := Tryz.func56.trans (congrArg some (by kernel_rfl))
  f284 := Tryz.func57.trans (congrArg some (by kernel_rfl))
  f285 := Tryz.func58.trans (congrArg some (by kernel_rfl))
  f286 := Tryz.func59.trans (congrArg some (by kernel_rfl))
  f317 := Tryz.func68.trans (congrArg some (by kernel_rfl))
  f318 := Tryz.func70.trans (congrArg some (by kernel_rfl))
  f319 := Tryz.func71.trans (congrArg some (by kernel_rfl))
  f320 := Tryz.func72.trans (congrArg some (by kernel_rfl))
  f337 := Tryz.func83.trans (congrArg some (by kernel_rfl))
  f338 := Tryz.func84.trans (congrArg some (by kernel_rfl))
  t0 := Tryz.underlying0
  a0 := Tryz.isAgg0
  z0 := Tryz.sizeOf0
  v0 := Tryz.zeroValue0
  t2 := Tryz.underlying2
  a2 := Tryz.isAgg2
  z2 := Tryz.sizeOf2
  v2 := Tryz.zeroValue2
  t3 := Tryz.underlying3
  a3 := Tryz.isAgg3
  z3 := Tryz.sizeOf3
  v3 := Tryz.zeroValue3
  t4 := Tryz.underlying4
  a4 := Tryz.isAgg4
  z4 := Tryz.sizeOf4
  v4 := Tryz.zeroValue4
  t5 := Tryz.underlying5
  a5 := Tryz.isAgg5
  z5 := Tryz.sizeOf5
  v5 := Tryz.zeroValue5
  t9 := Tryz.underlying9
  a9 := Tryz.isAgg9
  z9 := Tryz.sizeOf9
  v9 := Tryz.zeroValue9
  t20 := Tryz.underlying20
  a20 := Tryz.isAgg20
  z20 := Tryz.sizeOf20
  v20 := Tryz.zeroValue20
  t37 := Tryz.underlying40
  a37 := Tryz.isAgg40
  z37 := Tryz.sizeOf40
  v37 := Tryz.zeroValue40
  t46 := Tryz.underlying119
  a46 := Tryz.isAgg119
  z46 := Tryz.sizeOf119
  v46 := Tryz.zeroValue119
  t51 := Tryz.underlying83
  a51 := Tryz.isAgg83
  z51 := Tryz.sizeOf83
  v51 := Tryz.zeroValue83
  t53 := Tryz.underlying103
  a53 := Tryz.isAgg103
  z53 := Tryz.sizeOf103
  v53 := Tryz.zeroValue103
  t171 := Tryz.underlying102
  a171 := Tryz.isAgg102
  z171 := Tryz.sizeOf102
  v171 := Tryz.zeroValue102
  t173 := Tryz.underlying106
  a173 := Tryz.isAgg106
  z173 := Tryz.sizeOf106
  v173 := Tryz.zeroValue106
  t212 := Tryz.underlying116
  a212 := Tryz.isAgg116
  z212 := Tryz.sizeOf116
  v212 := Tryz.zeroValue116
  t213 := Tryz.underlying117
  a213 := Tryz.isAgg117
  z213 := Tryz.sizeOf117
  t232 := Tryz.underlying156
  a232 := Tryz.isAgg156
  z232 := Tryz.sizeOf156
  v232 := Tryz.zeroValue156
  t233 := Tryz.underlying157
  a233 := Tryz.isAgg157
  z233 := Tryz.sizeOf157
  v233 := Tryz.zeroValue157
  g17 := by kernel_rfl
  g18 := by kernel_rfl
  g19 := by kernel_rfl }
open Go.RowKit Go.Sort Go.Lib in
theorem Tryz.strconv_Itoa_small (i : Nat) (hi : i < 100) (w : World) :
    Calls Tryz.prog 26 #[.int .i64 i] w fun e w' => e = .returned (.string ⟨(Lib.decDigits i).toArray⟩) ∧ w' = w := Any.strconv_Itoa_small Tryz.lays171 i hi w
def Tryz.lays143_ren : Go.Shelf.Ren := ⟨fun | 143 => 82 | 219 => 96 | 217 => 106 | 225 => 94 | 224 => 93 | 267 => 107 | 266 => 115 | 314 => 116 | n => n, fun | 9 => 9 | 3 => 3 | 4 => 4 | 5 => 5 | 46 => 119 | 146 => 174 | 51 => 83 | n => n, fun | 1 => 1 | n => n⟩
theorem Tryz.lays143 : Go.Proofs.Lays.n143 Tryz.prog Tryz.lays143_ren := {
  mixed := by kernel_rfl
  f143 := Tryz.func82.trans (congrArg some (by kernel_rfl))
  f217 := Tryz.func106.trans (congrArg some (by kernel_rfl))
  f219 := Tryz.func96.trans (congrArg some (by kernel_rfl))
  f224 := Tryz.func93.trans (congrArg some (by kernel_rfl))
  f225 := Tryz.func94.trans (congrArg some (by kernel_rfl))
  f266 := Tryz.func115.trans (congrArg some (by kernel_rfl))
  f267 := Tryz.func107.trans (congrArg some (by kernel_rfl))
  f314 := Tryz.func116.trans (congrArg some (by kernel_rfl))
  t3 := Tryz.underlying3
  a3 := Tryz.isAgg3
  z3 := Tryz.sizeOf3
  v3 := Tryz.zeroValue3
  t4 := Tryz.underlying4
  a4 := Tryz.isAgg4
  z4 := Tryz.sizeOf4
  v4 := Tryz.zeroValue4
  t5 := Tryz.underlying5
  a5 := Tryz.isAgg5
  z5 := Tryz.sizeOf5
  v5 := Tryz.zeroValue5
  t9 := Tryz.underlying9
  a9 := Tryz.isAgg9
  z9 := Tryz.sizeOf9
  v9 := Tryz.zeroValue9
  t46 := Tryz.underlying119
  a46 := Tryz.isAgg119
  z46 := Tryz.sizeOf119
  v46 := Tryz.zeroValue119
  t51 := Tryz.underlying83
  a51 := Tryz.isAgg83
  z51 := Tryz.sizeOf83
  v51 := Tryz.zeroValue83
  t146 := Tryz.underlying174
  a146 := Tryz.isAgg174
  z146 := Tryz.sizeOf174
  v146 := Tryz.zeroValue174
  g1 := by kernel_rfl }
open Go.RowKit Go.Lib in
theorem Tryz.strings_Index_one (s : ByteArray) (c : UInt8) (w : World) :
    Calls Tryz.prog 82 #[.string s, .string ⟨#[c]⟩] w fun e w' => e = .returned (.int .i64 (Lib.indexByte s.data.toList c)) ∧ w' = w := Any.strings_Index_one Tryz.lays143 s c w
def Tryz.lays138_ren : Go.Shelf.Ren := ⟨fun | 138 => 144 | 195 => 145 | 218 => 146 | 143 => 82 | 219 => 96 | 217 => 106 | 225 => 94 | 224 => 93 | 267 => 107 | 266 => 115 | 314 => 116 | n => n, fun | 9 => 9 | 3 => 3 | 4 => 4 | 5 => 5 | 0 => 0 | 46 => 119 | 146 => 174 | 51 => 83 | n => n, fun | 1 => 1 | n => n⟩
theorem Tryz.lays138 : Go.Proofs.Lays.n138 Tryz.prog Tryz.lays138_ren := {
  mixed := by kernel_rfl
  f138 := Tryz.func144.trans (congrArg some (by kernel_rfl))
  f143 := Tryz.func82.trans (congrArg some (by kernel_rfl))
  f195 := Tryz.func145.trans (congrArg some (by kernel_rfl))
  f217 := Tryz.func106.trans (congrArg some (by kernel_rfl))
  f218 := Tryz.func146.trans (congrArg some (by kernel_rfl))
  f219 := Tryz.func96.trans (congrArg some (by kernel_rfl))
  f224 := Tryz.func93.trans (congrArg some (by kernel_rfl))
  f225 := Tryz.func94.trans (congrArg some (by kernel_rfl))
  f266 := Tryz.func115.trans (congrArg some (by kernel_rfl))
  f267 := Tryz.func107.trans (congrArg some (by kernel_rfl))
  f314 := Tryz.func116.trans (congrArg some (by kernel_rfl))
  t0 := Tryz.underlying0
  a0 := Tryz.isAgg0
  z0 := Tryz.sizeOf0
  v0 := Tryz.zeroValue0
  t3 := Tryz.underlying3
  a3 := Tryz.isAgg3
  z3 := Tryz.sizeOf3
  v3 := Tryz.zeroValue3
  t4 := Tryz.underlying4
  a4 := Tryz.isAgg4
  z4 := Tryz.sizeOf4
  v4 := Tryz.zeroValue4
  t5 := Tryz.underlying5
  a5 := Tryz.isAgg5
  z5 := Tryz.sizeOf5
  v5 := Tryz.zeroValue5
  t9 := Tryz.underlying9
  a9 := Tryz.isAgg9
  z9 := Tryz.sizeOf9
  v9 := Tryz.zeroValue9
  t46 := Tryz.underlying119
  a46 := Tryz.isAgg119
  z46 := Tryz.sizeOf119
  v46 := Tryz.zeroValue119
  t51 := Tryz.underlying83
  a51 := Tryz.isAgg83
  z51 := Tryz.sizeOf83
  v51 := Tryz.zeroValue83
  t146 := Tryz.underlying174
  a146 := Tryz.isAgg174
  z146 := Tryz.sizeOf174
  v146 := Tryz.zeroValue174
  g1 := by kernel_rfl }
open Go.RowKit Go.Lib in
theorem Tryz.strings_Count_one (s : ByteArray) (c : UInt8) (w : World) :
    Calls Tryz.prog 144 #[.string s, .string ⟨#[c]⟩] w fun e w' => e = .returned (.int .i64 (Lib.countByte s.data.toList c)) ∧ w' = w := Any.strings_Count_one Tryz.lays138 s c w
def Tryz.laysGw15_ren : Go.Shelf.Ren := ⟨fun | 15 => 52 | 20 => 65 | n => n, fun | 9 => 9 | 23 => 78 | 3 => 3 | 4 => 4 | 0 => 0 | 21 => 21 | n => n, fun | n => n⟩
theorem Tryz.laysGw15 : Go.Proofs.LaysGw.n15 Tryz.prog Tryz.laysGw15_ren := {
  mixed := by kernel_rfl
  f15 := Tryz.func52.trans (congrArg some (by kernel_rfl))
  f20 := Tryz.func65.trans (congrArg some (by kernel_rfl))
  t0 := Tryz.underlying0
  a0 := Tryz.isAgg0
  z0 := Tryz.sizeOf0
  v0 := Tryz.zeroValue0
  i0 := by kernel_rfl
  t3 := Tryz.underlying3
  a3 := Tryz.isAgg3
  z3 := Tryz.sizeOf3
  v3 := Tryz.zeroValue3
  i3 := by kernel_rfl
  t4 := Tryz.underlying4
  a4 := Tryz.isAgg4
  z4 := Tryz.sizeOf4
  v4 := Tryz.zeroValue4
  i4 := by kernel_rfl
  t9 := Tryz.underlying9
  a9 := Tryz.isAgg9
  z9 := Tryz.sizeOf9
  v9 := Tryz.zeroValue9
  i9 := by kernel_rfl
  t21 := Tryz.underlying21
  a21 := Tryz.isAgg21
  z21 := Tryz.sizeOf21
  v21 := Tryz.zeroValue21
  i21 := by kernel_rfl
  t23 := Tryz.underlying78
  a23 := Tryz.isAgg78
  z23 := Tryz.sizeOf78
  v23 := Tryz.zeroValue78
  i23 := by kernel_rfl }
def Tryz.laysGw17_ren : Go.Shelf.Ren := ⟨fun | 17 => 45 | 15 => 52 | 20 => 65 | n => n, fun | 9 => 9 | 23 => 78 | 4 => 4 | 3 => 3 | 0 => 0 | 21 => 21 | n => n, fun | n => n⟩
theorem Tryz.laysGw17 : Go.Proofs.LaysGw.n17 Tryz.prog Tryz.laysGw17_ren := {
  mixed := by kernel_rfl
  f15 := Tryz.func52.trans (congrArg some (by kernel_rfl))
  f17 := Tryz.func45.trans (congrArg some (by kernel_rfl))
  f20 := Tryz.func65.trans (congrArg some (by kernel_rfl))
  t0 := Tryz.underlying0
  a0 := Tryz.isAgg0
  z0 := Tryz.sizeOf0
  v0 := Tryz.zeroValue0
  i0 := by kernel_rfl
  t3 := Tryz.underlying3
  a3 := Tryz.isAgg3
  z3 := Tryz.sizeOf3
  v3 := Tryz.zeroValue3
  i3 := by kernel_rfl
  t4 := Tryz.underlying4
  a4 := Tryz.isAgg4
  z4 := Tryz.sizeOf4
  v4 := Tryz.zeroValue4
  i4 := by kernel_rfl
  t9 := Tryz.underlying9
  a9 := Tryz.isAgg9
  z9 := Tryz.sizeOf9
  v9 := Tryz.zeroValue9
  i9 := by kernel_rfl
  t21 := Tryz.underlying21
  a21 := Tryz.isAgg21
  z21 := Tryz.sizeOf21
  v21 := Tryz.zeroValue21
  i21 := by kernel_rfl
  t23 := Tryz.underlying78
  a23 := Tryz.isAgg78
  z23 := Tryz.sizeOf78
  v23 := Tryz.zeroValue78
  i23 := by kernel_rfl }
def Tryz.lays99_ren : Go.Shelf.Ren := ⟨fun | 99 => 51 | 206 => 64 | n => n, fun | 9 => 9 | 4 => 4 | 3 => 3 | n => n, fun | n => n⟩
theorem Tryz.lays99 : Go.Proofs.Lays.n99 Tryz.prog Tryz.lays99_ren := {
  mixed := by kernel_rfl
  f99 := Tryz.func51.trans (congrArg some (by kernel_rfl))
  f206 := Tryz.func64.trans (congrArg some (by kernel_rfl))
  t3 := Tryz.underlying3
  a3 := Tryz.isAgg3
  z3 := Tryz.sizeOf3
  v3 := Tryz.zeroValue3
  t4 := Tryz.underlying4
  a4 := Tryz.isAgg4
  z4 := Tryz.sizeOf4
  v4 := Tryz.zeroValue4
  t9 := Tryz.underlying9
  a9 := Tryz.isAgg9
  z9 := Tryz.sizeOf9
  v9 := Tryz.zeroValue9 }
open Go.RowKit Go.Lib in
theorem Tryz.strings_HasPrefix (s p : ByteArray) (w : World) :
    Calls Tryz.prog 51 #[.string s, .string p] w fun e w' => e = .returned (.bool (Lib.hasPrefix s.data.toList p.data.toList)) ∧ w' = w := Any.strings_HasPrefix Tryz.lays99 s p w
def Tryz.lays151_ren : Go.Shelf.Ren := ⟨fun | 151 => 66 | 152 => 79 | 137 => 91 | 119 => 92 | 224 => 93 | 225 => 94 | 217 => 106 | 266 => 115 | n => n, fun | 9 => 9 | 21 => 21 | 4 => 4 | 3 => 3 | 5 => 5 | 0 => 0 | 46 => 119 | n => n, fun | n => n⟩
theorem Tryz.lays151 : Go.Proofs.Lays.n151 Tryz.prog Tryz.lays151_ren := {
  mixed := by kernel_rfl
  f119 := Tryz.func92.trans (congrArg some (by kernel_rfl))
  f137 := Tryz.func91.trans (congrArg some (by kernel_rfl))
  f151 := Tryz.func66.trans (congrArg some (by kernel_rfl))
  f152 := Tryz.func79.trans (congrArg some (by kernel_rfl))
  f217 := Tryz.func106.trans (congrArg some (by kernel_rfl))
  f224 := Tryz.func93.trans (congrArg some (by kernel_rfl))
  f225 := Tryz.func94.trans (congrArg some (by kernel_rfl))
  f266 := Tryz.func115.trans (congrArg some (by kernel_rfl))
  t0 := Tryz.underlying0
  a0 := Tryz.isAgg0
  z0 := Tryz.sizeOf0
  v0 := Tryz.zeroValue0
  t3 := Tryz.underlying3
  a3 := Tryz.isAgg3
  z3 := Tryz.sizeOf3
  v3 := Tryz.zeroValue3
  t4 := Tryz.underlying4
  a4 := Tryz.isAgg4
  z4 := Tryz.sizeOf4
  v4 := Tryz.zeroValue4
  t5 := Tryz.underlying5
  a5 := Tryz.isAgg5
  z5 := Tryz.sizeOf5
  v5 := Tryz.zeroValue5
  t9 := Tryz.underlying9
  a9 := Tryz.isAgg9
  z9 := Tryz.sizeOf9
  v9 := Tryz.zeroValue9
  t21 := Tryz.underlying21
  a21 := Tryz.isAgg21
  z21 := Tryz.sizeOf21
  v21 := Tryz.zeroValue21
  t46 := Tryz.underlying119
  a46 := Tryz.isAgg119
  z46 := Tryz.sizeOf119
  v46 := Tryz.zeroValue119 }
open Go.RowKit Go.Lib in
theorem Tryz.strings_ContainsRune_ascii (s : ByteArray) (r : Int) (w : World) (h0 : 0 ≤ r) (h1 : r < 128) :
    Calls Tryz.prog 66 #[.string s, .int .i32 r] w fun e w' => e = .returned (.bool (decide (0 ≤ Lib.indexByte s.data.toList r.toNat.toUInt8))) ∧ w' = w := Any.strings_ContainsRune_ascii Tryz.lays151 s r w h0 h1
open Go.RowKit Go.Lib in
theorem Tryz.strings_IndexFunc_grows (g : Nat) (lb : Array Value) (eg : ∀ args w, (callFunc g args).run Tryz.prog w = .ok (.enter g args) w) (p : Nat → Bool) (s : ByteArray) (w : World) (hp : PredGrows Tryz.prog g lb p w) :
    Calls Tryz.prog 52 #[.string s, .func (.func g) #[] lb] w fun e w' => e = .returned (.int .i64 (Lib.idxFunc p true s)) ∧ Below w.heap.size w w' := Any.strings_IndexFunc_grows Tryz.laysGw15 g lb eg p s w hp
open Go.RowKit Go.Lib in
theorem Tryz.strings_ContainsFunc_grows (g : Nat) (lb : Array Value) (eg : ∀ args w, (callFunc g args).run Tryz.prog w = .ok (.enter g args) w) (p : Nat → Bool) (s : ByteArray) (w : World) (hp : PredGrows Tryz.prog g lb p w) :
    Calls Tryz.prog 45 #[.string s, .func (.func g) #[] lb] w fun e w' => e = .returned (.bool (decide (0 ≤ Lib.idxFunc p true s))) ∧ Below w.heap.size w w' := Any.strings_ContainsFunc_grows Tryz.laysGw17 g lb eg p s w hp
end Go.Proofs
end
section
set_option linter.unusedSimpArgs false
set_option linter.unusedVariables false
namespace Go.Proofs.YtapdchapjpnceaaGreatDoor.P
open Go.RowKit Go.Shelf Go.Proofs.YtapdchapjpnceaaGreatDoor.U Go.Proofs.YtapdchapjpnceaaGreatDoor.Rng
def splitK (c : UInt8) (k : Nat) : List UInt8 → List (List UInt8)
  | [] => [[]]
  | b :: l => if b = c then [c].take k :: splitK c k l else match splitK c k l with
    | [] => [[b]]
    | p :: ps => (b :: p) :: ps
theorem splitK_none (c : UInt8) (k : Nat) (l : List UInt8) (h : c ∉ l) : splitK c k l = [l] := by
  induction l with
  | nil => rfl
  | cons b l ih =>
    have h1 : b ≠ c := fun e => h (by simp [e])
    rw [splitK, if_neg h1, ih (fun e => h (by simp [e]))]
theorem splitK_at (c : UInt8) (k : Nat) (a l : List UInt8) (h : c ∉ a) : splitK c k (a ++ c :: l) = (a ++ [c].take k) :: splitK c k l := by
  induction a with
  | nil => simp [splitK]
  | cons b a ih =>
    have h1 : b ≠ c := fun e => h (by simp [e])
    rw [List.cons_append, splitK, if_neg h1, ih (fun e => h (by simp [e]))]
    simp
theorem index_cases (l : List UInt8) (c : UInt8) : (Lib.indexByte l c = -1 ∧ c ∉ l) ∨ ∃ a r, l = a ++ c :: r ∧ c ∉ a ∧ Lib.indexByte l c = (a.length : Int) := by
  induction l with
  | nil => exact .inl ⟨rfl, by simp⟩
  | cons b l ih =>
    by_cases hb : b = c
    · exact .inr ⟨[], l, by simp [hb], by simp, by simp [Lib.indexByte, hb]⟩
    · rcases ih with ⟨h1, h2⟩ | ⟨a, r, rfl, h2, h3⟩
      · exact .inl ⟨by simp [Lib.indexByte, hb, h1], by simp [h2, Ne.symm hb]⟩
      · refine .inr ⟨b :: a, r, rfl, by simp [h2, Ne.symm hb], ?_⟩
        unfold Lib.indexByte
        rw [h3]
        have : ¬ ((a.length : Int) == -1) = true := by simp
        simp [hb]
attribute [local go_sem] Oper.semAt_some
set_option maxRecDepth 100000 in
set_option maxHeartbeats 4000000 in
theorem split_seq (c : UInt8) (k : Nat) (hk : k ≤ 1) (b : Nat) (s : List UInt8) (hs : s.length ≤ 1000000) (w : World) (hlt : b + 2 < w.heap.size)
    (hb0 : w.heap[b]? = some (.cells #[.string (B s)] 9 (0, 0))) (hb1 : w.heap[b + 1]? = some (.cells #[.string (B [c])] 9 (0, 0))) (hb2 : w.heap[b + 2]? = some (.cells #[.int .i64 (k : Int)] 3 (0, 0))) :
    SeqOf Tryz.prog 80 #[.pointer (some ⟨b + 1, 0, none⟩), .pointer (some ⟨b, 0, none⟩), .pointer (some ⟨b + 2, 0, none⟩)] b ((splitK c k s).map B) w := by
  intro l J Jx W hW hJs hY hJ0
  have HB0 : W.heap[b]? = some (.cells #[.string (B s)] 9 (0, 0)) := (hW.block _ (by omega)).trans hb0
  have HB1 : W.heap[b + 1]? = some (.cells #[.string (B [c])] 9 (0, 0)) := (hW.block _ (by omega)).trans hb1
  have HB2 : W.heap[b + 2]? = some (.cells #[.int .i64 (k : Int)] 3 (0, 0)) := (hW.block _ (by omega)).trans hb2
  clear hb0 hb1 hb2
  have c1 := cell_of_one HB1
  refine callsIn_of_wp Tryz.func80 rfl trivial ?_ rfl
  simp only [Tryz.ntmps80, List.size_toArray, List.length_cons, List.length_nil, Nat.reduceAdd, Nat.reduceSub, Array.replicate_succ, Array.replicate_zero, List.push_toArray, List.append_toArray, List.nil_append, List.cons_append]
  gi_wp2_with fail
  gi_loopg [] (s.length + 1) (fun gk wr => ∃ (pre : List ByteArray) (r : List UInt8), (splitK c k s).map B = pre ++ (splitK c k r).map B ∧ r.length < gk ∧ r.length ≤ 1000000 ∧
    Hid (wr.heap[b]? = some (.cells #[.string (B r)] 9 (0, 0))) ∧ Hid (wr.heap[b + 1]? = some (.cells #[.string (B [c])] 9 (0, 0))) ∧ Hid (wr.heap[b + 2]? = some (.cells #[.int .i64 (k : Int)] 3 (0, 0))) ∧ Hid (J pre wr))
  case atStart => exact ⟨[], s, rfl, by omega, hs, HB0, HB1, HB2, hJ0⟩
  case round =>
    clear c1
    obtain ⟨pre, r, hx, hgk, hr, h0, h1, h2, hj⟩ := hrel
    have c0 := cell_of_one h0.out
    have c1 := cell_of_one h1.out
    have c2 := cell_of_one h2.out
    have f0 := free_of_one h0.out
    have HX := Lib.hid hx
    clear hx
    rcases index_cases r c with ⟨hi, hn⟩ | ⟨a, r', hr', hn, hi⟩
    · have HC : Hid (∀ W, CallsIn Fence.wide 1 Tryz.prog 82 #[.string (B r), .string (B [c])] W fun e w' => e = .returned (.int .i64 (-1)) ∧ W = w') := fun W => by
        have h := Tryz.strings_Index_one (B r) c W
        rw [data_B, hi] at h
        exact callsIn_wide.2 (h.mono fun e w' ⟨he, hw⟩ => ⟨he, hw.symm⟩)
      clear hi
      obtain ⟨fn, tmps, assign, body, hy, hR⟩ := hY pre (B r) wr hj.out (by rw [HX.out, splitK_none c k r hn]; simp)
      gi_wp2_with fail
      refine ⟨trivial, (HC.out _).mono ?_⟩
      rintro e w' ⟨rfl, rfl⟩
      gi_wp2_with fail
      refine hR.mono ?_
      rintro e W3 (⟨rfl, hJ3, hk3⟩ | ⟨rfl, hJx3⟩)
      · gi_wp2_with fail
        go_end0
        exact ⟨⟨_, rfl⟩, .inl (by rw [HX.out, splitK_none c k r hn]; exact hJ3)⟩
      · gi_wp2_with fail
        go_end0
        exact ⟨⟨_, rfl⟩, .inr ⟨_, by rw [HX.out, splitK_none c k r hn]; simp, hJx3⟩⟩
    · have HC : Hid (∀ W, CallsIn Fence.wide 1 Tryz.prog 82 #[.string (B r), .string (B [c])] W fun e w' => e = .returned (.int .i64 (a.length : Int)) ∧ W = w') := fun W => by
        have h := Tryz.strings_Index_one (B r) c W
        rw [data_B, hi] at h
        exact callsIn_wide.2 (h.mono fun e w' ⟨he, hw⟩ => ⟨he, hw.symm⟩)
      clear hi
      have hlen : r.length = a.length + 1 + r'.length := by rw [hr']; simp; omega
      have hsz : (B r).size = a.length + 1 + r'.length := by rw [size_B, hlen]
      have ha1 : (a.length : Int) + (k : Int) ≤ (a.length : Int) + 1 + (r'.length : Int) := by omega
      have E1 : Hid ((B r).extract 0 (a.length + k) = B (a ++ [c].take k)) := by
        show (B r).extract 0 (a.length + k) = B (a ++ [c].take k)
        rw [extract_B, hr', List.drop_zero, List.take_append, List.take_of_length_le (by omega)]
        have : (c :: r').take (a.length + k - a.length) = [c].take k := by
          rw [Nat.add_sub_cancel_left]
          match k, hk with
          | 0, _ => rfl
          | 1, _ => rfl
        rw [this]
      have E2 : Hid ((B r).extract (a.length + 1) (a.length + 1 + r'.length) = B r') := by
        show (B r).extract (a.length + 1) (a.length + 1 + r'.length) = B r'
        rw [extract_B, List.take_of_length_le (by omega), hr', List.drop_append]
        simp
      have HS : Hid (splitK c k r = (a ++ [c].take k) :: splitK c k r') := by
        show splitK c k r = _
        rw [hr', splitK_at c k a r' hn]
      obtain ⟨fn, tmps, assign, body, hy, hR⟩ := hY pre (B (a ++ [c].take k)) wr hj.out (by rw [HX.out, HS.out]; simp)
      have hr3 : r'.length ≤ 1000000 := by omega
      have hr4 : a.length ≤ 1000000 := by omega
      clear hr'
      gi_wp2_with fail
      refine ⟨trivial, (HC.out _).mono ?_⟩
      rintro e w' ⟨rfl, rfl⟩
      rw [← E1.out] at hy
      gi_wp2_with fail
      refine hR.mono ?_
      rintro e W3 (⟨rfl, hJ3, hk3⟩ | ⟨rfl, hJx3⟩)
      · have g0 := Lib.hid (hk3.1.trans h0.out)
        have g1 := Lib.hid (hk3.2.1.trans h1.out)
        have g2 := Lib.hid (hk3.2.2.trans h2.out)
        have d0 := cell_of_one g0.out
        have d1 := cell_of_one g1.out
        have e0 := free_of_one g0.out
        have J3 := Lib.hid hJ3
        obtain ⟨g', rfl⟩ : ∃ g', gk = g' + 1 := ⟨gk - 1, by omega⟩
        clear hk3 hJ3 c0 c1 c2 f0 hy hR
        gi_wp2_with fail
        gi_roundg g'
        case measure => omega
        case rel =>
          rw [E2.out]
          refine ⟨pre ++ [B (a ++ [c].take k)], r', ?_, by omega, hr3, one_setCell g0.out, ?_, ?_, hJs _ _ _ J3.out⟩
          · rw [HX.out, HS.out]; simp
          · exact (Below.heap_setCell _ _ _ _ (by show b + 1 ≠ b; omega)).trans g1.out
          · exact (Below.heap_setCell _ _ _ _ (by show b + 2 ≠ b; omega)).trans g2.out
      · gi_wp2_with fail
        refine bodyPost_ret (results_none rfl _ _ _) rfl ?_
        exact ⟨⟨_, rfl⟩, .inr ⟨_, by rw [HX.out, HS.out]; simp, hJx3⟩⟩
end Go.Proofs.YtapdchapjpnceaaGreatDoor.P
end
section
set_option linter.unusedSimpArgs false
set_option linter.unusedVariables false
namespace Go.Proofs.YtapdchapjpnceaaGreatDoor.P
open Go.RowKit Go.Lib Go.Proofs.YtapdchapjpnceaaGreatDoorW.PrintWords Go.Proofs.YtapdchapjpnceaaGreatDoor.U
abbrev signs : ByteArray := ⟨#[46, 95, 45, 43, 47]⟩
theorem indexByte_no (l : List UInt8) (c : UInt8) (h : c ∉ l) : Lib.indexByte l c = -1 := by
  induction l with
  | nil => rfl
  | cons b l ih =>
    have h1 : b ≠ c := fun e => h (by simp [e])
    have h2 := ih (fun e => h (by simp [e]))
    unfold Lib.indexByte
    simp [h1, h2]
theorem ib_none (s : ByteArray) (b : Nat) (hs : ∀ x ∈ s.data.toList, x.toNat < 128) (h1 : 128 ≤ b) (h2 : b < 256) (w : World) :
    Calls Tryz.prog 91 #[.string s, .int .u8 (b : Int)] w fun e w' => e = .returned (.int .i64 (-1)) ∧ w' = w := by
  have h := Tryz.strings_IndexByte s (b : Int) w
  rw [indexByte_no] at h
  · exact h
  · intro hm
    have := hs _ hm
    simp at this
    rw [Nat.mod_eq_of_lt h2] at this
    omega
theorem signs_tail (a b : Nat) : ∀ x ∈ (signs.extract a b).data.toList, x.toNat < 128 := by
  intro x hx
  have := mem_extract hx
  simp at this
  rcases this with rfl | rfl | rfl | rfl | rfl <;> decide
theorem last_byte_of (rs : ByteArray) (k : Nat) (hk : rs.size = k + 1) (q : ∀ h : rs.size - 1 < rs.size, 128 ≤ (rs[rs.size - 1]'h).toNat) :
    ∃ b : Nat, 128 ≤ b ∧ b < 256 ∧ ∀ h : k < rs.size, ((rs[k]'h).toNat : Int) = (b : Int) := by
  have q4 := q (by omega)
  simp only [hk, Nat.add_sub_cancel] at q4
  exact ⟨(rs[k]'(by omega)).toNat, q4, UInt8.toNat_lt _, fun _ => rfl⟩
set_option maxRecDepth 1000000 in
set_option maxHeartbeats 4000000 in
theorem indexRune_valid (r : Nat) (h0 : 128 ≤ r) (h1 : r ≤ 1114111) (hE : r ≠ 65533) (hv : Lib.validRune (r : Int) = true) (w : World) :
    Calls Tryz.prog 79 #[.string signs, .int .i32 (r : Int)] w fun e w' => e = .returned (.int .i64 (-1)) ∧ Below w.heap.size w w' := by
  have hE' : ((r : Int) == 65533) = false := by rw [beq_eq_false_iff_ne]; omega
  have hlt : decide ((r : Int) < 128) = false := by simp; omega
  obtain ⟨q1, q2, q3⟩ := encode_facts (r : Int) (by rw [validRune_eq]; exact hv) (by omega)
  generalize hrs : Utf8.encode (r : Int) = rs at q1 q2 q3
  have hz : rs.size = 2 ∨ rs.size = 3 ∨ rs.size = 4 := by omega
  clear q1 q2
  rcases hz with hz | hz | hz
  · obtain ⟨b, hb1, hb3, hb2⟩ := last_byte_of rs 1 hz q3
    have hne : ((95 : Int) != (b : Int)) = true := by rw [bne_iff_ne]; omega
    clear q3
    have s1 : IntKind.i64.wrap (1 + 1) = 2 := by rfl
    have hsg : ∀ h : 1 < signs.size, ((signs[1]'h).toNat : Int) = 95 := fun _ => rfl
    have HS := Lib.hid (signs_tail 2 5)
    go_enter Tryz.func79, Tryz.ntmps79
    go_wp2_with (first | (go_at_call 92; refine (Tryz.utf8_ValidRune _ _).mono ?_; rintro e w' ⟨rfl, rfl⟩))
    go_step3
    go_wp2_with fail
    refine wp_loop_rounds 1 ?_
    rw [rounds_succ]
    go_wp2_with fail
    go_step3
    go_wp2_with fail
    go_quiet (fail)
    clear hrs hv hE hE' hlt
    go_wp2_with fail
    go_region_with (go_at_call 91; refine (ib_none _ b HS.out hb1 hb3 _).mono ?_; rintro e w2 ⟨rfl, rfl⟩)
    all_goals go_wp2_with fail
    all_goals (rw [Exit.noGoto_ret]; go_simp; go_ret; exact ⟨rfl, below_drewNg _ _⟩)
  · obtain ⟨b, hb1, hb3, hb2⟩ := last_byte_of rs 2 hz q3
    have hne : ((45 : Int) != (b : Int)) = true := by rw [bne_iff_ne]; omega
    clear q3
    have s1 : IntKind.i64.wrap (2 + 1) = 3 := by rfl
    have hsg : ∀ h : 2 < signs.size, ((signs[2]'h).toNat : Int) = 45 := fun _ => rfl
    have HS := Lib.hid (signs_tail 3 5)
    go_enter Tryz.func79, Tryz.ntmps79
    go_wp2_with (first | (go_at_call 92; refine (Tryz.utf8_ValidRune _ _).mono ?_; rintro e w' ⟨rfl, rfl⟩))
    go_step3
    go_wp2_with fail
    refine wp_loop_rounds 1 ?_
    rw [rounds_succ]
    go_wp2_with fail
    go_step3
    go_wp2_with fail
    go_quiet (fail)
    clear hrs hv hE hE' hlt
    go_wp2_with fail
    go_region_with (go_at_call 91; refine (ib_none _ b HS.out hb1 hb3 _).mono ?_; rintro e w2 ⟨rfl, rfl⟩)
    all_goals go_wp2_with fail
    all_goals (rw [Exit.noGoto_ret]; go_simp; go_ret; exact ⟨rfl, below_drewNg _ _⟩)
  · obtain ⟨b, hb1, hb3, hb2⟩ := last_byte_of rs 3 hz q3
    have hne : ((43 : Int) != (b : Int)) = true := by rw [bne_iff_ne]; omega
    clear q3
    have s1 : IntKind.i64.wrap (3 + 1) = 4 := by rfl
    have hsg : ∀ h : 3 < signs.size, ((signs[3]'h).toNat : Int) = 43 := fun _ => rfl
    have HS := Lib.hid (signs_tail 4 5)
    go_enter Tryz.func79, Tryz.ntmps79
    go_wp2_with (first | (go_at_call 92; refine (Tryz.utf8_ValidRune _ _).mono ?_; rintro e w' ⟨rfl, rfl⟩))
    go_step3
    go_wp2_with fail
    refine wp_loop_rounds 1 ?_
    rw [rounds_succ]
    go_wp2_with fail
    go_step3
    go_wp2_with fail
    go_quiet (fail)
    clear hrs hv hE hE' hlt
    go_wp2_with fail
    go_region_with (go_at_call 91; refine (ib_none _ b HS.out hb1 hb3 _).mono ?_; rintro e w2 ⟨rfl, rfl⟩)
    all_goals go_wp2_with fail
    all_goals (rw [Exit.noGoto_ret]; go_simp; go_ret; exact ⟨rfl, below_drewNg _ _⟩)
set_option maxRecDepth 1000000 in
set_option maxHeartbeats 4000000 in
theorem indexRune_invalid (r : Nat) (h0 : 128 ≤ r) (h1 : r ≤ 1114111) (hE : r ≠ 65533) (hv : Lib.validRune (r : Int) = false) (w : World) :
    Calls Tryz.prog 79 #[.string signs, .int .i32 (r : Int)] w fun e w' => e = .returned (.int .i64 (-1)) ∧ Below w.heap.size w w' := by
  have hE' : ((r : Int) == 65533) = false := by rw [beq_eq_false_iff_ne]; omega
  have hlt : decide ((r : Int) < 128) = false := by simp; omega
  go_enter Tryz.func79, Tryz.ntmps79
  go_wp2_with (first | (go_at_call 92; refine (Tryz.utf8_ValidRune _ _).mono ?_; rintro e w' ⟨rfl, rfl⟩))
  go_ret
  exact ⟨rfl, Below.refl _ _⟩
theorem decode_signs (pos : Nat) (h : pos < 5) : (Utf8.decode signs pos).1 ≠ 65533 ∧ (Utf8.decode signs pos).2 = 1 := by
  have : pos = 0 ∨ pos = 1 ∨ pos = 2 ∨ pos = 3 ∨ pos = 4 := by omega
  rcases this with rfl | rfl | rfl | rfl | rfl <;> exact ⟨by decide +kernel, by decide +kernel⟩
set_option maxRecDepth 1000000 in
set_option maxHeartbeats 4000000 in
theorem indexRune_error (w : World) :
    Calls Tryz.prog 79 #[.string signs, .int .i32 65533] w fun e w' => e = .returned (.int .i64 (-1)) ∧ Below w.heap.size w w' := by
  go_enter Tryz.func79, Tryz.ntmps79
  go_wp2
  go_loopg [] 5 (fun gf wx => ∃ pos : Nat, wx.heap[w.heap.size]? = some (.stringIter signs pos) ∧ Below w.heap.size w wx ∧ 5 ≤ pos + gf)
  case atStart => exact ⟨0, World.iter_heap w signs 0, (Below.refl _ w).alloc (Nat.le_refl _) _, by omega⟩
  case round =>
    obtain ⟨pos, hit, hbw, hfu⟩ := hrel
    by_cases hps : pos < signs.size
    · have hp5 : pos < 5 := hps
      obtain ⟨g', rfl⟩ : ∃ g', gk = g' + 1 := ⟨gk - 1, by omega⟩
      have hnx : ∀ ty, (Instr.next (.pointer (some ⟨w.heap.size, 0, none⟩)) true ty).run Tryz.prog wr = _ := fun ty => Lib.run_next_any_at wr w.heap.size signs pos ty hit hps
      obtain ⟨hd1, hd2⟩ := decode_signs pos hp5
      obtain ⟨R, hR⟩ : ∃ R, (Utf8.decode signs pos).1 = R := ⟨_, rfl⟩
      rw [hR] at hd1 hnx
      rw [hd2] at hnx
      have hit2 := Lib.iterAt_heap wr w.heap.size signs pos (pos + 1) hit
      have hbw2 := Lib.below_iterAt hbw (k := w.heap.size) (Nat.le_refl _) signs (pos + 1)
      obtain ⟨W, hWd⟩ : ∃ W, wr.iterAt w.heap.size signs (pos + 1) = W := ⟨_, rfl⟩
      rw [hWd] at hnx hit2 hbw2
      have hR3 : ((R : Int) == 65533) = false := by rw [beq_eq_false_iff_ne]; omega
      clear hR hd2 hWd hit hd1
      go_wp2
      go_roundg g'
      case measure => omega
      case rel => exact ⟨pos + 1, hit2, hbw2, by omega⟩
    · have hnx : ∀ ty, (Instr.next (.pointer (some ⟨w.heap.size, 0, none⟩)) true ty).run Tryz.prog wr = _ := fun ty => Lib.run_next_end_at wr w.heap.size signs pos ty hit (by omega)
      go_wp2
      go_ret
      exact ⟨rfl, hbw⟩
end Go.Proofs.YtapdchapjpnceaaGreatDoor.P
end
section
set_option linter.unusedSimpArgs false
set_option linter.unusedVariables false
namespace Go.Proofs.YtapdchapjpnceaaGreatDoor.P
open Go.RowKit Go.Lib Go.Proofs.YtapdchapjpnceaaGreatDoorW.PrintWords Go.Proofs.YtapdchapjpnceaaGreatDoor.U
def isSignR (c : Nat) : Bool := c == 46 || c == 95 || c == 45 || c == 43 || c == 47
def plainR (c : Nat) : Bool := (decide (97 ≤ c) && decide (c ≤ 122)) || (decide (65 ≤ c) && decide (c ≤ 90)) || (decide (48 ≤ c) && decide (c ≤ 57)) || isSignR c
theorem sign_ascii : ∀ c : Fin 128, decide (0 ≤ Lib.indexByte signs.data.toList ((c.val : Int).toNat.toUInt8)) = isSignR c.val := by decide +kernel
theorem sign_beyond (c : Nat) (h : 128 ≤ c) : isSignR c = false := by
  have h1 : ¬ c = 46 := by omega
  have h2 : ¬ c = 95 := by omega
  have h3 : ¬ c = 45 := by omega
  have h4 : ¬ c = 43 := by omega
  have h5 : ¬ c = 47 := by omega
  simp [isSignR, h1, h2, h3, h4, h5]
set_option maxRecDepth 100000 in
set_option maxHeartbeats 2000000 in
theorem containsRune_any (c : Nat) (h1 : c ≤ 1114111) (w : World) :
    Calls Tryz.prog 66 #[.string signs, .int .i32 (c : Int)] w fun e w' => e = .returned (.bool (isSignR c)) ∧ Below w.heap.size w w' := by
  by_cases hc : c < 128
  · have h := Tryz.strings_ContainsRune_ascii signs (c : Int) w (by omega) (by omega)
    have e := sign_ascii ⟨c, hc⟩
    simp only at e
    rw [e] at h
    exact h.mono fun e w' ⟨he, hw⟩ => ⟨he, hw ▸ Below.refl _ _⟩
  · have hI : Calls Tryz.prog 79 #[.string signs, .int .i32 (c : Int)] w fun e w' => e = .returned (.int .i64 (-1)) ∧ Below w.heap.size w w' := by
      by_cases hE : c = 65533
      · subst hE; exact indexRune_error w
      · by_cases hv : Lib.validRune (c : Int) = true
        · exact indexRune_valid c (by omega) h1 hE hv w
        · exact indexRune_invalid c (by omega) h1 hE (by simpa using hv) w
    have HI := Lib.hid hI
    clear hI
    rw [sign_beyond c (by omega)]
    go_enter Tryz.func66, Tryz.ntmps66
    go_wp2_with fail
    refine HI.out.mono ?_
    rintro e w' ⟨rfl, hb⟩
    go_wp2_with fail
    go_ret
    exact ⟨rfl, hb⟩
theorem not_sign_letter (c : Nat) (h : (97 ≤ c ∧ c ≤ 122) ∨ (65 ≤ c ∧ c ≤ 90) ∨ (48 ≤ c ∧ c ≤ 57)) : plainR c = true := by
  unfold plainR
  rcases h with ⟨a, b⟩ | ⟨a, b⟩ | ⟨a, b⟩ <;> simp [a, b]
theorem plain_other (c : Nat) (h : c < 48 ∨ (57 < c ∧ c < 65) ∨ (90 < c ∧ c < 97) ∨ 122 < c) : plainR c = isSignR c := by
  unfold plainR
  have h1 : ¬ (97 ≤ c ∧ c ≤ 122) := by omega
  have h2 : ¬ (65 ≤ c ∧ c ≤ 90) := by omega
  have h3 : ¬ (48 ≤ c ∧ c ≤ 57) := by omega
  have e1 : (decide (97 ≤ c) && decide (c ≤ 122)) = false := by rw [← Bool.decide_and]; simp only [decide_eq_false_iff_not]; exact h1
  have e2 : (decide (65 ≤ c) && decide (c ≤ 90)) = false := by rw [← Bool.decide_and]; simp only [decide_eq_false_iff_not]; exact h2
  have e3 : (decide (48 ≤ c) && decide (c ≤ 57)) = false := by rw [← Bool.decide_and]; simp only [decide_eq_false_iff_not]; exact h3
  simp [e1, e2, e3]
set_option maxRecDepth 100000 in
set_option maxHeartbeats 4000000 in
theorem plain_any (c : Nat) (h1 : c ≤ 1114111) (w : World) :
    Calls Tryz.prog 54 #[.int .i32 (c : Int)] w fun e w' => e = .returned (.bool (plainR c)) ∧ Below w.heap.size w w' := by
  rcases (show ((97 ≤ c ∧ c ≤ 122) ∨ (65 ≤ c ∧ c ≤ 90) ∨ (48 ≤ c ∧ c ≤ 57)) ∨ (c < 48 ∨ (57 < c ∧ c < 65) ∨ (90 < c ∧ c < 97) ∨ 122 < c) from by omega) with h | h
  · rw [not_sign_letter c h]
    rcases h with ⟨a, b⟩ | ⟨a, b⟩ | ⟨a, b⟩
    all_goals
      go_enter Tryz.func54, Tryz.ntmps54
      go_wp2_with fail
      go_ret
      exact ⟨rfl, Below.refl _ _⟩
  · have H := Lib.hid (plain_other c h)
    rcases h with a | ⟨a, b⟩ | ⟨a, b⟩ | a
    · go_enter Tryz.func54, Tryz.ntmps54
      go_wp2_with fail
      refine (containsRune_any c h1 _).mono ?_
      rintro e w' ⟨rfl, hb⟩
      go_wp2_with fail
      go_ret
      exact ⟨by rw [H.out]; rfl, hb⟩
    · have d57 : decide ((c : Int) ≤ 57) = false := by simp; omega
      go_enter Tryz.func54, Tryz.ntmps54
      go_wp2_with fail
      refine (containsRune_any c h1 _).mono ?_
      rintro e w' ⟨rfl, hb⟩
      go_wp2_with fail
      go_ret
      exact ⟨by rw [H.out]; rfl, hb⟩
    · have d57 : decide ((c : Int) ≤ 57) = false := by simp; omega
      have d90 : decide ((c : Int) ≤ 90) = false := by simp; omega
      go_enter Tryz.func54, Tryz.ntmps54
      go_wp2_with fail
      refine (containsRune_any c h1 _).mono ?_
      rintro e w' ⟨rfl, hb⟩
      go_wp2_with fail
      go_ret
      exact ⟨by rw [H.out]; rfl, hb⟩
    · have d57 : decide ((c : Int) ≤ 57) = false := by simp; omega
      have d90 : decide ((c : Int) ≤ 90) = false := by simp; omega
      have d122 : decide ((c : Int) ≤ 122) = false := by simp; omega
      go_enter Tryz.func54, Tryz.ntmps54
      go_wp2_with fail
      refine (containsRune_any c h1 _).mono ?_
      rintro e w' ⟨rfl, hb⟩
      go_wp2_with fail
      go_ret
      exact ⟨by rw [H.out]; rfl, hb⟩
theorem notplain_grows (w : World) : PredGrows Tryz.prog 53 #[] (fun c => !plainR c) w := by
  intro W x hx hb
  go_enter Tryz.func53, Tryz.ntmps53
  go_wp2_with fail
  refine (plain_any x hx _).mono ?_
  rintro e w' ⟨rfl, hb2⟩
  go_wp2_with fail
  go_ret
  exact ⟨rfl, hb2⟩
def plainB (b : UInt8) : Bool := plainR b.toNat
theorem plainR_beyond (c : Nat) (h : 128 ≤ c) : plainR c = false := by rw [plain_other c (by omega)]; exact sign_beyond c h
theorem decode_at (s : ByteArray) (pos : Nat) (h : pos < s.size) : ((s[pos]'h).toNat < 128 → Utf8.decode s pos = ((s[pos]'h).toNat, 1)) ∧ (128 ≤ (s[pos]'h).toNat → 128 ≤ (Utf8.decode s pos).1) := by
  have hg : (s.get! pos).toNat = (s[pos]'h).toNat := by
    have : s.get! pos = s[pos]'h := by
      show s.data[pos]! = s.data[pos]'h
      rw [getElem!_pos s.data pos h]
    rw [this]
  have hlt := (s[pos]'h).toNat_lt
  constructor
  · intro h1
    unfold Utf8.decode
    simp only [Nat.add_zero, hg]
    rw [if_pos h1]
  · intro h1
    unfold Utf8.decode
    simp only [Nat.add_zero, hg]
    rw [if_neg (by omega)]
    split
    · split
      · assumption
      · show 128 ≤ Utf8.runeError; decide
    · split
      · split
        · rename_i h2; simp only [Bool.and_eq_true, decide_eq_true_eq] at h2; omega
        · show 128 ≤ Utf8.runeError; decide
      · split
        · split
          · rename_i h2; simp only [Bool.and_eq_true, decide_eq_true_eq] at h2; omega
          · show 128 ≤ Utf8.runeError; decide
        · show 128 ≤ Utf8.runeError; decide
theorem plainB_ascii (b : UInt8) (h : plainB b = true) : b.toNat < 128 := by
  refine Nat.lt_of_not_le fun h2 => ?_
  rw [plainB, plainR_beyond _ h2] at h
  cases h
theorem idx_all (s : ByteArray) (f : Nat) : ∀ pos, (∀ j (h : j < s.size), pos ≤ j → plainB (s[j]'h) = true) → Lib.idxFuncFrom (fun c => !plainR c) true s f pos = -1 := by
  induction f with
  | zero => intro pos _; rfl
  | succ f ih =>
    intro pos h
    unfold Lib.idxFuncFrom
    by_cases hp : pos < s.size
    · have hb := h pos hp (Nat.le_refl _)
      have hd := (decode_at s pos hp).1 (plainB_ascii _ hb)
      rw [if_pos hp, hd, if_neg (by simp; exact hb)]
      exact ih (pos + 1) fun j hj hle => h j hj (by omega)
    · rw [if_neg hp]
theorem idx_some (s : ByteArray) (f : Nat) : ∀ pos, s.size ≤ pos + f → (∃ j, ∃ h : j < s.size, pos ≤ j ∧ plainB (s[j]'h) = false) → 0 ≤ Lib.idxFuncFrom (fun c => !plainR c) true s f pos := by
  induction f with
  | zero =>
    intro pos hf ⟨j, hj, h1, _⟩
    omega
  | succ f ih =>
    intro pos hf ⟨j, hj, h1, h2⟩
    have hp : pos < s.size := by omega
    unfold Lib.idxFuncFrom
    rw [if_pos hp]
    by_cases hr : plainR (Utf8.decode s pos).1 = true
    · have hlt : (s[pos]'hp).toNat < 128 := by
        refine Nat.lt_of_not_le fun h3 => ?_
        rw [plainR_beyond _ ((decode_at s pos hp).2 h3)] at hr
        cases hr
      have hd := (decode_at s pos hp).1 hlt
      rw [hd] at hr ⊢
      rw [if_neg (by simp; exact hr)]
      refine ih (pos + 1) (by omega) ⟨j, hj, ?_, h2⟩
      refine Nat.lt_of_le_of_ne h1 fun e => ?_
      subst e
      rw [plainB] at h2
      simp only at hr
      rw [hr] at h2
      cases h2
    · rw [if_pos (by simpa using hr)]
      omega
theorem idx_plain (l : List UInt8) : (l.all plainB = true → Lib.idxFunc (fun c => !plainR c) true (B l) = -1) ∧ (l.all plainB = false → 0 ≤ Lib.idxFunc (fun c => !plainR c) true (B l)) := by
  unfold Lib.idxFunc
  constructor
  · intro h
    refine idx_all (B l) _ 0 fun j hj _ => ?_
    have : (B l)[j]'hj ∈ l := by
      show l.toArray[j]'hj ∈ l
      simp
    exact List.all_eq_true.1 h _ this
  · intro h
    refine idx_some (B l) _ 0 (by omega) ?_
    obtain ⟨x, hx, hx2⟩ := List.all_eq_false.1 h
    obtain ⟨j, hj, rfl⟩ := List.getElem_of_mem hx
    exact ⟨j, by rw [size_B]; exact hj, Nat.zero_le _, (show plainB l[j] = false by simpa using hx2)⟩
end Go.Proofs.YtapdchapjpnceaaGreatDoor.P
end
section
set_option linter.unusedSimpArgs false
set_option linter.unusedVariables false
namespace Go.Proofs.YtapdchapjpnceaaGreatDoor.P
open Go.RowKit Go.Shelf Go.Proofs.YtapdchapjpnceaaGreatDoorW.PrintWords Go.Proofs.YtapdchapjpnceaaGreatDoor.U Go.Proofs.YtapdchapjpnceaaGreatDoor.Rng
def foldP : List (List UInt8) → List (List UInt8) → Option (List (List UInt8))
  | [], ps => some ps
  | p :: r, ps => if p = [] ∨ p = [46] then foldP r ps else if p = [46, 46] then (if ps = [] then none else foldP r ps.dropLast) else foldP r (ps ++ [p])
def joinP (ps : List (List UInt8)) : List UInt8 := [47].intercalate ps
def cleanL (l : List UInt8) : List UInt8 × Int :=
  if 1000 < l.length then ([], 3) else if l.head? = some 47 ∨ l.all plainB = false then ([], 5) else
  match foldP (splitK 47 0 l) [] with
  | none => ([], 5)
  | some ps => if joinP ps = [] then ([], 5) else if 100 < (joinP ps).length then ([], 3) else (joinP ps, 0)
set_option maxRecDepth 100000 in
set_option maxHeartbeats 1000000 in
theorem SplitSeq_any (s sep : ByteArray) (w : World) :
    Calls Tryz.prog 55 #[.string s, .string sep] w fun e w' => e = .returned (.func (.func 80) #[] #[.pointer (some ⟨w.heap.size + 1, 0, none⟩), .pointer (some ⟨w.heap.size, 0, none⟩), .pointer (some ⟨w.heap.size + 2, 0, none⟩)]) ∧
      ((w.alloc (.cells #[.string s] 9)).alloc (.cells #[.string sep] 9)).alloc (.cells #[.int .i64 0] 3) = w' := by
  go_enter Tryz.func55, Tryz.ntmps55
  go_wp2
  go_ret
  exact ⟨rfl, rfl⟩
theorem hasPrefix_slash (l : List UInt8) : Lib.hasPrefix l [47] = decide (l.head? = some 47) := by
  cases l with
  | nil => rfl
  | cons b l =>
    rw [Bool.eq_iff_iff]
    simp [Lib.hasPrefix, List.isPrefixOf]
    exact eq_comm
set_option maxRecDepth 100000 in
set_option maxHeartbeats 2000000 in
theorem clean_long (l : List UInt8) (h : 1000 < l.length) (w : World) :
    Calls Tryz.prog 44 #[.string (B l)] w fun e w' => e = .returned (.tuple #[.string (B []), .int .i64 3]) ∧ Below w.heap.size w w' := by
  have hs : (B l).size = l.length := size_B l
  have h' : (1000 : Int) < (l.length : Int) := by omega
  go_enter Tryz.func44, Tryz.ntmps44
  go_wp2
  go_step3
  go_wp2
  rw [Exit.noGoto_ret]
  refine bodyPost_ret (v := .tuple #[.string (B []), .int .i64 3]) (by simp [results, Tryz.results44, go_sem]) rfl ⟨rfl, ?_⟩
  exact (((((Below.refl _ w).alloc (Nat.le_refl _) _).alloc (by simp) _)))
set_option maxRecDepth 100000 in
set_option maxHeartbeats 2000000 in
theorem clean_slash (l : List UInt8) (h : l.length ≤ 1000) (hb : l.head? = some 47) (w : World) :
    Calls Tryz.prog 44 #[.string (B l)] w fun e w' => e = .returned (.tuple #[.string (B []), .int .i64 5]) ∧ Below w.heap.size w w' := by
  have hs : (B l).size = l.length := size_B l
  have h' : (l.length : Int) ≤ 1000 := by omega
  have HP : Hid (∀ W, Calls Tryz.prog 51 #[.string (B l), .string ⟨#[47]⟩] W fun e w' => e = .returned (.bool true) ∧ W = w') := fun W => by
    have := Tryz.strings_HasPrefix (B l) ⟨#[47]⟩ W
    rw [data_B, hasPrefix_slash, hb] at this
    exact this.mono fun e w' ⟨he, hw⟩ => ⟨he, hw.symm⟩
  clear hb
  go_enter Tryz.func44, Tryz.ntmps44
  go_wp2
  go_step3
  go_wp2_with fail
  refine (HP.out _).mono ?_
  rintro e w' ⟨rfl, rfl⟩
  go_wp2_with fail
  rw [Exit.noGoto_ret]
  refine bodyPost_ret (v := .tuple #[.string (B []), .int .i64 5]) (by simp [results, Tryz.results44, go_sem]) rfl ⟨rfl, ?_⟩
  exact ((Below.refl _ w).alloc (Nat.le_refl _) _).alloc (by simp) _
theorem idx_calls (l : List UInt8) (n : Int) (h : Lib.idxFunc (fun c => !plainR c) true (B l) = n) (W : World) :
    Calls Tryz.prog 52 #[.string (B l), .func (.func 53) #[] #[]] W fun e w' => e = .returned (.int .i64 n) ∧ Below W.heap.size W w' := by
  have := Tryz.strings_IndexFunc_grows 53 #[] (enters_of Tryz.func53 (by kernel_rfl) rfl) (fun c => !plainR c) (B l) W (notplain_grows W)
  rw [h] at this
  exact this
set_option maxRecDepth 100000 in
set_option maxHeartbeats 2000000 in
theorem clean_bad (l : List UInt8) (h : l.length ≤ 1000) (hb : ¬ l.head? = some 47) (hp : l.all plainB = false) (w : World) :
    Calls Tryz.prog 44 #[.string (B l)] w fun e w' => e = .returned (.tuple #[.string (B []), .int .i64 5]) ∧ Below w.heap.size w w' := by
  have hs : (B l).size = l.length := size_B l
  have h' : (l.length : Int) ≤ 1000 := by omega
  have HP : Hid (∀ W, Calls Tryz.prog 51 #[.string (B l), .string ⟨#[47]⟩] W fun e w' => e = .returned (.bool false) ∧ W = w') := fun W => by
    have := Tryz.strings_HasPrefix (B l) ⟨#[47]⟩ W
    rw [data_B, hasPrefix_slash, decide_eq_false hb] at this
    exact this.mono fun e w' ⟨he, hw⟩ => ⟨he, hw.symm⟩
  obtain ⟨i, hi⟩ : ∃ i, Lib.idxFunc (fun c => !plainR c) true (B l) = i := ⟨_, rfl⟩
  have hi0 : 0 ≤ i := by rw [← hi]; exact (idx_plain l).2 hp
  have HI := Lib.hid (idx_calls l i hi)
  clear hb hp hi
  go_enter Tryz.func44, Tryz.ntmps44
  go_wp2
  go_step3
  go_wp2_with fail
  refine (HP.out _).mono ?_
  rintro e w' ⟨rfl, rfl⟩
  go_wp2_with fail
  refine (HI.out _).mono ?_
  rintro e w' ⟨rfl, hb⟩
  have b1 : w'.heap[w.heap.size]? = some (.cells #[.string (B [])] 9 (0, 0)) := (hb.block _ (by simp; omega)).trans ((Below.heap_alloc _ _ _ (by simp)).trans (heap_alloc_new w _))
  have b2 : w'.heap[w.heap.size + 1]? = some (.cells #[.int .i64 0] 27 (0, 0)) := (hb.block _ (by simp)).trans (by simpa using heap_alloc_new (w.alloc _) _)
  have c1 := cell_of_one b1
  have c2 := cell_of_one b2
  have f1 := free_of_one b1
  have f2 := free_of_one b2
  go_wp2_with fail
  rw [Exit.noGoto_ret]
  have b1' := one_setCell (u := .string (B [])) b1
  have b2' : (w'.setCell ⟨w.heap.size, 0, none⟩ (.string (B []))).heap[w.heap.size + 1]? = _ := (Below.heap_setCell w' ⟨w.heap.size, 0, none⟩ _ (w.heap.size + 1) (by show w.heap.size + 1 ≠ w.heap.size; omega)).trans b2
  have b2'' := one_setCell (u := .int .i64 5) b2'
  have b1'' := (Below.heap_setCell (w'.setCell ⟨w.heap.size, 0, none⟩ (.string (B []))) ⟨w.heap.size + 1, 0, none⟩ (.int .i64 5) w.heap.size (by show w.heap.size ≠ w.heap.size + 1; omega)).trans b1'
  have k1 := cell_of_one b1''
  have k2 := cell_of_one b2''
  refine bodyPost_ret (v := .tuple #[.string (B []), .int .i64 5]) (by simp [results, Tryz.results44, go_sem, k1, k2]) rfl ⟨rfl, ?_⟩
  exact (((((Below.refl _ w).alloc (Nat.le_refl _) _).alloc (by simp) _).trans (hb.mono (by simp; omega))).setCell (Nat.le_refl _) _).setCell (Nat.le_succ _) _
theorem SplitSeq_calls (l : List UInt8) (W : World) :
    Calls Tryz.prog 55 #[.string (B l), .string ⟨#[47]⟩] W fun e w' => e = .returned (.func (.func 80) #[] #[.pointer (some ⟨W.heap.size + 1, 0, none⟩), .pointer (some ⟨W.heap.size, 0, none⟩), .pointer (some ⟨W.heap.size + 2, 0, none⟩)]) ∧
      Below W.heap.size W w' ∧ W.heap.size + 2 < w'.heap.size ∧ w'.heap[W.heap.size]? = some (.cells #[.string (B l)] 9 (0, 0)) ∧ w'.heap[W.heap.size + 1]? = some (.cells #[.string (B [47])] 9 (0, 0)) ∧ w'.heap[W.heap.size + 2]? = some (.cells #[.int .i64 0] 3 (0, 0)) :=
  (SplitSeq_any (B l) ⟨#[47]⟩ W).mono fun e w' ⟨he, hw⟩ => by
    subst hw
    refine ⟨he, (((Below.refl _ W).alloc (Nat.le_refl _) _).alloc (by simp) _).alloc (by simp; omega) _, by simp, ?_, ?_, ?_⟩
    · exact (Below.heap_alloc _ _ _ (by simp; omega)).trans ((Below.heap_alloc _ _ _ (by simp)).trans (heap_alloc_new W _))
    · exact (Below.heap_alloc _ _ _ (by simp)).trans (by simpa using heap_alloc_new (W.alloc (.cells #[.string (B l)] 9)) (.cells #[.string (B [47])] 9))
    · simpa using heap_alloc_new ((W.alloc (.cells #[.string (B l)] 9)).alloc (.cells #[.string (B [47])] 9)) (.cells #[.int .i64 0] 3)
theorem foldP_append (a b ps : List (List UInt8)) : foldP (a ++ b) ps = (foldP a ps).bind (foldP b) := by
  induction a generalizing ps with
  | nil => rfl
  | cons p a ih =>
    rw [List.cons_append, foldP, foldP]
    split
    · exact ih ps
    · split
      · split
        · rfl
        · exact ih _
      · exact ih _
theorem foldP_none {a b c : List (List UInt8)} (h : a <+: b) (ha : foldP a c = none) : foldP b c = none := by
  obtain ⟨t, rfl⟩ := h
  rw [foldP_append, ha]; rfl
theorem map_snoc_prefix {pl q : List (List UInt8)} {x : ByteArray} (h : (pl.map B ++ [x]) <+: q.map B) : ∃ p, x = B p ∧ (pl ++ [p]) <+: q := by
  obtain ⟨t, ht⟩ := h
  have hlen : pl.length < q.length := by have := congrArg List.length ht; simp at this; omega
  have h1 : pl = q.take pl.length := by
    have := congrArg (List.take pl.length) ht
    rw [List.append_assoc, List.take_left' (by simp), ← List.map_take] at this
    exact (List.map_inj_right (fun _ _ e => B_inj e)).1 this
  have h2 : x = B q[pl.length] := by
    have := congrArg (fun z => z[pl.length]?) ht
    simp [List.getElem?_append, List.getElem?_eq_getElem hlen] at this
    exact this
  refine ⟨q[pl.length], h2, ?_⟩
  have : pl ++ [q[pl.length]] = q.take (pl.length + 1) := by
    rw [List.take_succ_eq_append_getElem hlen, ← h1]
  rw [this]
  exact List.take_prefix _ _
theorem foldP_len (a : List (List UInt8)) : ∀ ps qs, foldP a ps = some qs → qs.length ≤ ps.length + a.length := by
  induction a with
  | nil => intro ps qs h; simp [foldP] at h; subst h; simp
  | cons p a ih =>
    intro ps qs h
    rw [foldP] at h
    split at h
    · have := ih _ _ h; simp; omega
    · split at h
      · split at h
        · cases h
        · have := ih _ _ h; simp at this ⊢; omega
      · have := ih _ _ h; simp at this ⊢; omega
theorem splitK_len (c : UInt8) (k : Nat) (l : List UInt8) : (splitK c k l).length ≤ l.length + 1 := by
  induction l with
  | nil => simp [splitK]
  | cons b l ih =>
    rw [splitK]; split
    · simp; omega
    · split
      · simp
      · rename_i p ps he
        rw [he] at ih
        simp at ih ⊢; omega
structure CInv (N pb bs : Nat) (e : Int) (ps : List (List UInt8)) (W : World) : Prop where
  r1 : W.heap[N]? = some (.cells #[.string (B [])] 9 (0, 0))
  r2 : W.heap[N + 1]? = some (.cells #[.int .i64 e] 27 (0, 0))
  le : bs ≤ W.heap.size
  parts : ∃ v, W.heap[pb]? = some (.cells #[v] 23 (0, 0)) ∧ W.ownsRow bs 9 1 v ps.length (ps.map fun x => Value.string (B x))
theorem heap_keep {W W' : World} {row : Option Nat} {k : Nat} {cs : Array Value} {t : TypeId} (hg : W.grownBy W' row) (hr : ∀ r, row = some r → ∃ o : Obj, W.heap[r]? = some o ∧ o.isCells = false) (h : W.heap[k]? = some (.cells cs t (0, 0))) : W'.heap[k]? = some (.cells cs t (0, 0)) := by
  refine (hg.block k (lt_of_block h) fun e => ?_).trans h
  obtain ⟨o, ho, hc⟩ := hr k e.symm
  rw [h] at ho
  cases ho
  cases hc
theorem CInv.own (N pb bs : Nat) (e : Int) : Own (CInv N pb bs e) := fun ps A C row hs hg hr => by
  obtain ⟨h1, h2, hz, v, hv, ho⟩ := hs
  refine ⟨heap_keep hg hr h1, heap_keep hg hr h2, Nat.le_trans hz hg.size, v, heap_keep hg hr hv, ho.kept hg ?_⟩
  rcases ho.2 with ⟨rfl, _⟩ | ⟨g, cap, cur, rfl, _, hh, _⟩
  · exact .inl rfl
  · right
    intro e
    obtain ⟨o, ho', hc⟩ := hr g e.symm
    rw [hh] at ho'
    cases ho'
    cases hc
theorem CInv.set_other {N pb bs k : Nat} {e : Int} {ps : List (List UInt8)} {W : World} (h : CInv N pb bs e ps W) (hN : N + 1 < k) (hpb : pb < k) (hk : k < bs) (u : Value) : CInv N pb bs e ps (W.setCell ⟨k, 0, none⟩ u) := by
  obtain ⟨h1, h2, hz, v, hv, ho⟩ := h
  exact ⟨(Below.heap_setCell _ _ _ _ (by show N ≠ k; omega)).trans h1, (Below.heap_setCell _ _ _ _ (by show N + 1 ≠ k; omega)).trans h2, by simpa [World.setCell] using hz, v, (Below.heap_setCell _ _ _ _ (by show pb ≠ k; omega)).trans hv, ownsRow_setCell_below ho (a := ⟨k, 0, none⟩) hk u⟩
theorem kept3_set {b k : Nat} (W : World) (u : Value) (h : k < b) : Kept3 b W (W.setCell ⟨k, 0, none⟩ u) :=
  ⟨Below.heap_setCell _ _ _ _ (by show b ≠ k; omega), Below.heap_setCell _ _ _ _ (by show b + 1 ≠ k; omega), Below.heap_setCell _ _ _ _ (by show b + 2 ≠ k; omega)⟩
theorem CInv.fail {N pb bs : Nat} {ps : List (List UInt8)} {W : World} (h : CInv N pb bs 0 ps W) (hN : N + 1 < pb) (hb : pb < bs) :
    CInv N pb bs 5 ps ((W.setCell ⟨N, 0, none⟩ (.string (B []))).setCell ⟨N + 1, 0, none⟩ (.int .i64 5)) := by
  obtain ⟨h1, h2, hz, v, hv, ho⟩ := h
  have g1 := one_setCell (u := .string (B [])) h1
  have g2 : (W.setCell ⟨N, 0, none⟩ (.string (B []))).heap[N + 1]? = _ := (Below.heap_setCell W ⟨N, 0, none⟩ _ (N + 1) (by show N + 1 ≠ N; omega)).trans h2
  refine ⟨(Below.heap_setCell _ _ _ _ (by show N ≠ N + 1; omega)).trans g1, one_setCell g2, by simpa [World.setCell] using hz, v, ?_, ?_⟩
  · exact (Below.heap_setCell _ _ _ _ (by show pb ≠ N + 1; omega)).trans ((Below.heap_setCell _ _ _ _ (by show pb ≠ N; omega)).trans hv)
  · exact ownsRow_setCell_below (ownsRow_setCell_below ho (a := ⟨N, 0, none⟩) (by show N < bs; omega) _) (a := ⟨N + 1, 0, none⟩) (by show N + 1 < bs; omega) _
theorem CInv.put {N pb bs : Nat} {e : Int} {ps qs : List (List UInt8)} {W : World} (h : CInv N pb bs e ps W) (hN : N + 1 < pb) (hb : pb < bs) {u : Value} (ho : W.ownsRow bs 9 1 u qs.length (qs.map fun x => Value.string (B x))) :
    CInv N pb bs e qs (W.setCell ⟨pb, 0, none⟩ u) := by
  obtain ⟨h1, h2, hz, v, hv, _⟩ := h
  exact ⟨(Below.heap_setCell _ _ _ _ (by show N ≠ pb; omega)).trans h1, (Below.heap_setCell _ _ _ _ (by show N + 1 ≠ pb; omega)).trans h2, by simpa [World.setCell] using hz, u, one_setCell hv, ownsRow_setCell_below ho (a := ⟨pb, 0, none⟩) hb u⟩
theorem CInv.push {N pb bs : Nat} {e : Int} {ps qs : List (List UInt8)} {W W' : World} {row : Option Nat} {u : Value} (h : CInv N pb bs e ps W) (hN : N + 1 < pb) (hb : pb < bs) (hg : W.grownBy W' row) (hr : ∀ k, row = some k → bs ≤ k)
    (ho : W'.ownsRow bs 9 1 u qs.length (qs.map fun x => Value.string (B x))) :
    (∃ v, W'.heap[pb]? = some (.cells #[v] 23 (0, 0))) ∧ CInv N pb bs e qs (W'.setCell ⟨pb, 0, none⟩ u) := by
  obtain ⟨h1, h2, hz, v, hv, _⟩ := h
  have keep : ∀ k, k < bs → k < W.heap.size → W'.heap[k]? = W.heap[k]? := fun k hk hl => hg.block k hl (fun e => by have := hr k e.symm; omega)
  have g1 := (keep N (by omega) (lt_of_block h1)).trans h1
  have g2 := (keep _ (by omega) (lt_of_block h2)).trans h2
  have g3 := (keep pb hb (lt_of_block hv)).trans hv
  exact ⟨⟨v, g3⟩, (Below.heap_setCell _ _ _ _ (by show N ≠ pb; omega)).trans g1, (Below.heap_setCell _ _ _ _ (by show N + 1 ≠ pb; omega)).trans g2, by simpa [World.setCell] using Nat.le_trans hz hg.size, u, one_setCell g3, ownsRow_setCell_below ho (a := ⟨pb, 0, none⟩) hb u⟩
theorem kept3_grown {b bs : Nat} {W W' : World} {row : Option Nat} (hg : W.grownBy W' row) (hr : ∀ k, row = some k → bs ≤ k) (hb : b + 2 < bs) (hz : bs ≤ W.heap.size) : Kept3 b W W' := by
  have keep : ∀ k, k < bs → W'.heap[k]? = W.heap[k]? := fun k hk => hg.block k (by omega) (fun e => by have := hr k e.symm; omega)
  exact ⟨keep _ (by omega), keep _ (by omega), keep _ (by omega)⟩
theorem keepsOthers_own {bs n : Nat} {v : Value} {xs : List Value} {W W' : World} (ho : W.ownsRow bs 9 1 v n xs) (hg : W.grownBy W' v.ownBlock) : KeepsOthers W W' := by
  refine ⟨hg.size, fun k o hk hc => (hg.block k (Array.getElem?_eq_some_iff.1 hk).1 fun e => ?_).trans hk⟩
  rcases ho.2 with ⟨rfl, _⟩ | ⟨g, cap, cur, rfl, _, hh, _⟩
  · simp [Value.ownBlock] at e
  · simp only [Value.ownBlock, Option.some.injEq] at e
    subst e
    rw [hh] at hk
    cases hk
    cases hc
def totalP (l : List (List UInt8)) : Nat := (l.map List.length).sum
theorem joinP_len (ps : List (List UInt8)) : (joinP ps).length ≤ totalP ps + ps.length := by
  induction ps with
  | nil => simp [joinP, List.intercalate]
  | cons p ps ih =>
    cases ps with
    | nil => simp [joinP, List.intercalate, totalP]
    | cons q r =>
      have e : joinP (p :: q :: r) = p ++ 47 :: joinP (q :: r) := by simp [joinP, List.intercalate, List.intersperse]
      rw [e]
      simp [totalP] at ih ⊢
      omega
theorem totalP_dropLast (ps : List (List UInt8)) : totalP ps.dropLast ≤ totalP ps := by
  by_cases h : ps = []
  · subst h; simp
  · obtain ⟨qs, q, rfl⟩ : ∃ qs q, ps = qs ++ [q] := ⟨ps.dropLast, ps.getLast h, (List.dropLast_concat_getLast h).symm⟩
    simp [totalP]
theorem foldP_total (a : List (List UInt8)) : ∀ ps qs, foldP a ps = some qs → totalP qs ≤ totalP ps + totalP a := by
  induction a with
  | nil => intro ps qs h; simp [foldP] at h; subst h; simp [totalP]
  | cons p a ih =>
    intro ps qs h
    have hc : totalP (p :: a) = p.length + totalP a := by simp [totalP]
    rw [foldP] at h
    split at h
    · have := ih _ _ h; omega
    · split at h
      · split at h
        · cases h
        · have := ih _ _ h; have := totalP_dropLast ps; omega
      · have := ih _ _ h
        have e : totalP (ps ++ [p]) = totalP ps + p.length := by simp [totalP]
        omega
theorem splitK_total (c : UInt8) (l : List UInt8) : totalP (splitK c 0 l) ≤ l.length := by
  induction l with
  | nil => simp [splitK, totalP]
  | cons b l ih =>
    rw [splitK]; split
    · simp [totalP] at ih ⊢; omega
    · split
      · simp [totalP]
      · rename_i p ps he
        rw [he] at ih
        simp [totalP] at ih ⊢; omega
theorem join_calls (bs : Nat) (v : Value) (ps : List (List UInt8)) (W : World) (ho : W.ownsRow bs 9 1 v ps.length (ps.map fun x => Value.string (B x))) (hl : totalP ps + ps.length ≤ 1000000) :
    Calls Tryz.prog 28 #[v, .string ⟨#[47]⟩] W fun e w' => e = .returned (.string (B (joinP ps))) ∧ Below W.heap.size W w' := by
  by_cases h0 : ps = []
  · subst h0
    obtain ⟨A0, c0, rfl⟩ := own_slice ho
    exact (Tryz.strings_Join_none A0 c0 ⟨#[47]⟩ W).mono fun e w' ⟨he, hw⟩ => ⟨he, hw ▸ Below.refl _ _⟩
  · have hpos := List.length_pos_iff.2 h0
    have ho' := ho
    rcases ho.2 with ⟨_, hz⟩ | ⟨g, cap, cur, rfl, _, hh, hcap1, hcap2, _⟩
    · omega
    have hj : (ps.map B).map (fun x => x.data.toList) = ps := by simp [Function.comp_def]
    have := Tryz.strings_Join g 0 cap (ps.map B) ⟨#[47]⟩ W (fun j x hx => by
      have hj : j < ps.length := by have := (List.getElem?_eq_some_iff.1 hx).1; simpa using this
      have hc := ho'.cellAt j (by omega)
      rw [Nat.zero_add, hc]
      simp [List.getElem?_eq_getElem hj] at hx ⊢
      exact hx) (lt_of_block hh) (by simp; omega) (by simp; omega) (by
        rw [hj]; have := joinP_len ps; show (joinP ps).length ≤ _; omega)
    rw [hj, List.length_map] at this
    exact this
theorem infoStr : (Tryz.prog.info? 9).map (fun i => (i.zero, i.size, i.bytes)) = some (some (.string ⟨#[]⟩), 1, 16) := by kernel_rfl
theorem clean_leave (D N : Nat) (w W : World) (s : ByteArray) (e : Int) (tmps : Array Value) (ht2 : tmps[2]?.getD undef = .pointer (some ⟨N, 0, none⟩)) (ht3 : tmps[3]?.getD undef = .pointer (some ⟨N + 1, 0, none⟩))
    (h1 : W.heap[N]? = some (.cells #[.string s] 9 (0, 0))) (h2 : W.heap[N + 1]? = some (.cells #[.int .i64 e] 27 (0, 0))) (hK : W.heap[D]? = some (.deferred (some []))) (hD : w.heap.size ≤ D) (hB : Below w.heap.size w W) :
    bodyPostM Fence.wide 3 Tryz.prog Tryz.f44 (fun e' w' => e' = .returned (.tuple #[.string s, .int .i64 e]) ∧ Below w.heap.size w w') .ret { tmps := tmps, defers := [{ target := .collected D, args := #[] }] } W := by
  refine ⟨by simp, .inl ⟨_, _, rfl, run_takeDeferred hK, ?_⟩⟩
  have c1 := cell_kept (cell_of_one h1) (grownBy_putObj' _ D (.deferred none)) (fun r e => by cases e; exact ⟨_, hK, rfl⟩)
  have c2 := cell_kept (cell_of_one h2) (grownBy_putObj' _ D (.deferred none)) (fun r e => by cases e; exact ⟨_, hK, rfl⟩)
  refine ⟨.tuple #[.string s, .int .i64 e], ?_, rfl, hB.trans (belowK_b (w := w) (Nat.le_refl _) W D _ _ hD hK rfl rfl)⟩
  simp [results, Tryz.f44, go_sem, ht2, ht3, c1, c2]
attribute [local go_sem] Oper.semAt_some
set_option maxRecDepth 100000 in
set_option maxHeartbeats 8000000 in
theorem clean_main (l : List UInt8) (h : l.length ≤ 1000) (hb : ¬ l.head? = some 47) (hp : l.all plainB = true) (r : List UInt8 × Int) (hr : cleanL l = r) (w : World) :
    Calls Tryz.prog 44 #[.string (B l)] w fun e w' => e = .returned (.tuple #[.string (B r.1), .int .i64 r.2]) ∧ Below w.heap.size w w' := by
  have hs : (B l).size = l.length := size_B l
  have h' : (l.length : Int) ≤ 1000 := by omega
  have HP : Hid (∀ W, Calls Tryz.prog 51 #[.string (B l), .string ⟨#[47]⟩] W fun e w' => e = .returned (.bool false) ∧ W = w') := fun W => by
    have := Tryz.strings_HasPrefix (B l) ⟨#[47]⟩ W
    rw [data_B, hasPrefix_slash, decide_eq_false hb] at this
    exact this.mono fun e w' ⟨he, hw⟩ => ⟨he, hw.symm⟩
  have HI := Lib.hid (idx_calls l (-1) ((idx_plain l).1 hp))
  have HB := Lib.hid hb
  have HPL := Lib.hid hp
  have HR := Lib.hid hr
  clear hb hp hr
  refine (callsIn_wide (n := 3)).1 ?_
  refine callsIn_of_wp_marks Tryz.func44 rfl trivial ?_ rfl
  simp only [Tryz.ntmps44, List.size_toArray, List.length_cons, List.length_nil, Nat.reduceAdd, Nat.reduceSub, Array.replicate_succ, Array.replicate_zero, List.push_toArray, List.append_toArray, List.nil_append, List.cons_append]
  refine wpIn_wide.2 ?_
  obtain ⟨Q, hQ⟩ : ∃ Q, bodyPostM Fence.wide 3 Tryz.prog Tryz.f44 (fun e w' => e = .returned (.tuple #[.string (B r.1), .int .i64 r.2]) ∧ Below w.heap.size w w') = Q := ⟨_, rfl⟩
  rw [hQ]
  have HQ := Lib.hid hQ
  clear hQ
  go_wp2
  go_step3
  go_wp2_with fail
  refine (HP.out _).mono ?_
  rintro e w' ⟨rfl, rfl⟩
  go_wp2_with fail
  refine (HI.out _).mono ?_
  rintro e w1 ⟨rfl, hb⟩
  go_wp2_with fail
  go_step3
  have hd : decide ((1000 : Int) < (l.length : Int)) = false := by simp; omega
  have hlt1 : w.heap.size + 1 < w1.heap.size := by have := hb.size; simp at this; omega
  obtain ⟨W0, hW0⟩ : ∃ W0, w1.alloc (.cells #[.slice none 0 0] 23) = W0 := ⟨_, rfl⟩
  have hz0 : W0.heap.size = w1.heap.size + 1 := by rw [← hW0]; simp
  have b1 : W0.heap[w.heap.size]? = some (.cells #[.string (B [])] 9 (0, 0)) := by
    rw [← hW0]; exact (Below.heap_alloc _ _ _ (by omega)).trans ((hb.block _ (by simp; omega)).trans ((Below.heap_alloc _ _ _ (by simp)).trans (heap_alloc_new w _)))
  have b2 : W0.heap[w.heap.size + 1]? = some (.cells #[.int .i64 0] 27 (0, 0)) := by
    rw [← hW0]; exact (Below.heap_alloc _ _ _ (by omega)).trans ((hb.block _ (by simp)).trans (by simpa using heap_alloc_new (w.alloc _) _))
  have b3 : W0.heap[w1.heap.size]? = some (.cells #[.slice none 0 0] 23 (0, 0)) := by rw [← hW0]; exact heap_alloc_new _ _
  have hB0 : Below w.heap.size w W0 := by
    rw [← hW0]; exact ((((Below.refl _ w).alloc (Nat.le_refl _) _).alloc (by simp) _).trans (hb.mono (by simp; omega))).alloc (by omega) _
  rw [hW0]
  have H1 := Lib.hid b1
  have H2 := Lib.hid b2
  have H3 := Lib.hid b3
  have HB0 := Lib.hid hB0
  have HZ0 := Lib.hid hz0
  clear hW0 hb b1 b2 b3 hB0 hz0
  go_wp2_with fail
  refine (SplitSeq_calls l _).mono ?_
  rintro e w2 ⟨rfl, hb2, hz2, i0, i1, i2⟩
  rw [HZ0.out] at hz2 i0 i1 i2
  have HBB2 := Lib.hid hb2
  have I0 := Lib.hid i0
  have I1 := Lib.hid i1
  have I2 := Lib.hid i2
  have HZ2 := Lib.hid hz2
  clear hb2 i0 i1 i2 hz2
  go_wp2_with fail
  refine wpIn_wide.1 (wp_range_str (gf := 80) (lb := #[.pointer (some ⟨W0.heap.size + 1, 0, none⟩), .pointer (some ⟨W0.heap.size, 0, none⟩), .pointer (some ⟨W0.heap.size + 2, 0, none⟩)]) rfl (enters_of Tryz.func80 (by kernel_rfl) rfl)
    (split_seq 47 0 (by omega) W0.heap.size l (by omega) w2 ?hlt ?i0 ?i1 ?i2) (Below.refl _ _) ?hbw
    (fun pre W => (∃ pl ps, pre = pl.map B ∧ pl <+: splitK 47 0 l ∧ foldP pl [] = some ps ∧ CInv w.heap.size w1.heap.size w2.heap.size 0 ps W) ∧ Below w.heap.size w W)
    (fun c pre W => (c = .ret ∧ foldP (splitK 47 0 l) [] = none ∧ ∃ ps, CInv w.heap.size w1.heap.size w2.heap.size 5 ps W) ∧ Below w.heap.size w W)
    ?hI ?hIx ?hIs ?h0 ?a1 ?assign ?body ?done ?stop)
  case i0 => rw [HZ0.out]; exact I0.out
  case i1 => rw [HZ0.out]; exact I1.out
  case i2 => rw [HZ0.out]; exact I2.out
  case hlt => rw [HZ0.out]; exact HZ2.out
  case hbw => rw [HZ0.out]; exact HZ2.out
  case hI =>
    refine OwnFrom.and (Own.from (fun s A C row hs hg hr => ?_) _) (ownFrom_below (Nat.le_refl _) ?_)
    · obtain ⟨pl, ps, h1, h2, h3, h4⟩ := hs
      exact ⟨pl, ps, h1, h2, h3, CInv.own _ _ _ _ ps A C row h4 hg hr⟩
    · have := HZ2.out; omega
  case hIx =>
    intro c
    refine OwnFrom.and (Own.from (fun s A C row hs hg hr => ?_) _) (ownFrom_below (Nat.le_refl _) ?_)
    · obtain ⟨h1, h2, ps, h4⟩ := hs
      exact ⟨h1, h2, ps, CInv.own _ _ _ _ ps A C row h4 hg hr⟩
    · have := HZ2.out; omega
  case hIs =>
    rintro pre W u ⟨⟨pl, ps, h1, h2, h3, h4⟩, h5⟩
    exact ⟨⟨pl, ps, h1, h2, h3, h4.set_other (by have := HZ0.out; omega) (by have := HZ0.out; omega) (by have := HZ0.out; have := HZ2.out; omega) u⟩, h5.setCell (by show w.heap.size ≤ W0.heap.size; have := HZ0.out; omega) u⟩
  case h0 =>
    refine ⟨⟨[], [], rfl, List.nil_prefix, rfl, (HBB2.out.block _ (by have := HZ0.out; omega)).trans H1.out, (HBB2.out.block _ (by have := HZ0.out; omega)).trans H2.out, Nat.le_refl _, .slice none 0 0, (HBB2.out.block _ (by have := HZ0.out; omega)).trans H3.out, World.ownsRow_nil _ _ _ _⟩, ?_⟩
    exact HB0.out.trans (HBB2.out.mono (by have := HZ0.out; omega))
  case assign =>
    intro l' x W K hK
    simp only [List.zip_toArray, List.zip_cons_cons, List.zip_nil_right, List.foldl_toArray, List.foldl_cons, List.foldl_nil, List.setIfInBounds_toArray, List.set_cons_succ, List.set_cons_zero]
    gi_wp2
    exact hK
  case body =>
    have hpb : w1.heap.size < w2.heap.size := by have := HZ0.out; have := HZ2.out; omega
    rintro l' pre x W ⟨⟨pl, ps, rfl, hpl, hps, hinv⟩, hB⟩ hpx
    obtain ⟨p, rfl, hpp⟩ := map_snoc_prefix hpx
    have hfold : foldP (pl ++ [p]) [] = foldP [p] ps := by rw [foldP_append, hps]; rfl
    have HF := Lib.hid hfold
    have hlp := foldP_len _ _ _ hps
    have hlk := splitK_len 47 0 l
    have hll := hpl.length_le
    have hpn : ps.length ≤ 1001 := by simp at hlp; omega
    have HI := Lib.hid hinv
    have HPP := Lib.hid hpp
    obtain ⟨v, hv, hown⟩ := hinv.parts
    have c1 := cell_of_one hinv.r1
    have f1 := free_of_one hinv.r1
    have c2 := cell_of_one hinv.r2
    have f2 := free_of_one hinv.r2
    have c3 := cell_of_one hv
    have f3 := free_of_one hv
    clear hfold hlp hlk hll hpl hps hpx hpp hinv
    by_cases p0 : p = []
    · subst p0
      gi_wp2_with fail
      exact ⟨KeepsFrom.refl _ _, Kept3.refl _ _, ⟨pl ++ [[]], ps, by simp, HPP.out, by rw [HF.out]; simp [foldP], HI.out⟩, hB⟩
    by_cases p1 : p = [46]
    · subst p1
      gi_wp2_with fail
      exact ⟨KeepsFrom.refl _ _, Kept3.refl _ _, ⟨pl ++ [[46]], ps, by simp, HPP.out, by rw [HF.out]; simp [foldP], HI.out⟩, hB⟩
    by_cases p2 : p = [46, 46]
    · subst p2
      by_cases hps0 : ps = []
      · subst hps0
        obtain ⟨A0, c0, rfl⟩ := own_slice hown
        gi_wp2_with fail
        refine ⟨((KeepsOthers.setCell _ _ _).trans (KeepsOthers.setCell _ _ _)).from _, ⟨rfl, foldP_none HPP.out (by rw [HF.out]; simp [foldP]), [], HI.out.fail hlt1 hpb⟩, ?_⟩
        exact (hB.setCell (Nat.le_refl _) _).setCell (Nat.le_succ _) _
      · obtain ⟨qs, q, rfl⟩ : ∃ qs q, ps = qs ++ [q] := ⟨ps.dropLast, ps.getLast hps0, (List.dropLast_concat_getLast hps0).symm⟩
        rw [List.length_append, List.length_singleton, List.map_append] at hown
        have hown' := hown
        rcases hown'.2 with ⟨_, h0⟩ | ⟨g, cap, cur, rfl, _, _, hcap1, hcap2, _⟩
        · omega
        have hpop := ownsRow_pop (by simp) hown
        have HPOP := Lib.hid hpop
        have hcap3 : ((qs.length : Int)) ≤ (cap : Int) := by omega
        have hq : qs.length ≤ 1001 := by rw [List.length_append] at hpn; omega
        clear hown hown' hpop hpn
        gi_wp2_with fail
        refine ⟨(KeepsOthers.setCell _ _ _).from _, kept3_set _ _ (by have := HZ0.out; omega), ⟨pl ++ [[46, 46]], qs, by simp, HPP.out, by rw [HF.out]; simp [foldP], HI.out.put hlt1 hpb HPOP.out⟩, ?_⟩
        exact hB.setCell (by show w.heap.size ≤ w1.heap.size; omega) _
    · have q0 : p.isEmpty = false := by simpa using p0
      have q1 : (p == [46]) = false := by simpa using p1
      have q2 : (p == [46, 46]) = false := by simpa using p2
      have HFF : Hid (foldP [p] ps = some (ps ++ [p])) := by
        show foldP [p] ps = some (ps ++ [p])
        simp [foldP, p0, p1, p2]
      clear p0 p1 p2
      obtain ⟨i0, hi, hz0, hz1, hz2⟩ := info_parts infoStr
      have hle2 := HI.out.le
      gi_wp2_with (gi_at_builtin; go_must (refine wpListIn_append_own _ rfl _ _ 23 rfl w2.heap.size 9 i0 (.string ⟨#[]⟩) 1 16 Tryz.underlying23 hi hz0 hz1 hz2 rfl (by decide) _ _ _ rfl (hown.alloc _) ⟨W.heap.size, 0, none⟩ 1 1 [.string (B p)] rfl rfl (cell_one_new _ _ _) (by simp [Value.oneCell']) (by unfold maxLen; omega) (by omega) (by simp; omega) ?_; intro v' w3 hown' hgrow _; obtain ⟨g', cap', rfl⟩ := ownsRow_succ hown'; have HG := Lib.hid ((World.grownBy_alloc W _ v.ownBlock).trans hgrow); have HP := Lib.hid (HI.out.push hlt1 hpb HG.out (own_base hown) (qs := ps ++ [p]) (by simpa using hown')); obtain ⟨v3, hv3⟩ := HP.out.1; have k3 := cell_of_one hv3; have m3 := free_of_one hv3; clear hown' hgrow))
      have hKO : KeepsOthers W w3 := keepsOthers_own hown HG.out
      have hK3 : Kept3 W0.heap.size W w3 := kept3_grown HG.out (own_base hown) (by have := HZ0.out; have := HZ2.out; omega) hle2
      have hBW : Below w.heap.size w w3 := hB.grown HG.out hB.size (fun k hk => by have := own_base hown k hk; omega)
      refine ⟨(hKO.trans (KeepsOthers.setCell _ _ _)).from _, hK3.trans (kept3_set _ _ (by have := HZ0.out; omega)), ⟨pl ++ [p], ps ++ [p], by simp, HPP.out, by rw [HF.out, HFF.out], HP.out.2⟩, ?_⟩
      exact hBW.setCell (by show w.heap.size ≤ w1.heap.size; omega) _
  case done =>
    rintro D W hD ⟨⟨pl, ps, hpl, hpre, hps, hinv⟩, hB⟩ hK
    obtain rfl : pl = splitK 47 0 l := ((List.map_inj_right (fun _ _ e => B_inj e)).1 hpl).symm
    obtain ⟨v, hv, hown⟩ := hinv.parts
    have c1 := cell_of_one hinv.r1
    have f1 := free_of_one hinv.r1
    have c2 := cell_of_one hinv.r2
    have f2 := free_of_one hinv.r2
    have c3 := cell_of_one hv
    have f3 := free_of_one hv
    have HPS := Lib.hid hps
    have HIN := Lib.hid hinv
    have ht1 := foldP_total _ _ _ hps
    have ht2 := splitK_total 47 l
    have ht3 := foldP_len _ _ _ hps
    have ht4 := splitK_len 47 0 l
    have HJ := Lib.hid (join_calls w2.heap.size v ps W hown (by simp [totalP] at ht1 ht2 ht3; simp [totalP]; omega))
    have hD2 : w.heap.size ≤ D := by have := HZ0.out; have := HZ2.out; omega
    clear ht1 ht2 ht3 ht4 hown hps hpl hpre hinv
    go_wp2_with fail
    refine HJ.out.mono ?_
    rintro e w4 ⟨rfl, hb4⟩
    have n1 := (hb4.block _ (lt_of_block HIN.out.r1)).trans HIN.out.r1
    have n2 := (hb4.block _ (lt_of_block HIN.out.r2)).trans HIN.out.r2
    have N1 := Lib.hid n1
    have N2 := Lib.hid n2
    have k1 := cell_of_one n1
    have m1 := free_of_one n1
    have k2 := cell_of_one n2
    have m2 := free_of_one n2
    have HK4 := Lib.hid ((hb4.block _ (Array.getElem?_eq_some_iff.1 hK).1).trans hK)
    have HB4 := Lib.hid (hB.trans (hb4.mono hB.size))
    clear c1 f1 c2 f2 c3 f3 n1 n2 hb4 hK hB hv
    by_cases q0 : joinP ps = []
    · have q1 : (joinP ps).isEmpty = true := by simpa using q0
      have hres : r = ([], 5) := by rw [← HR.out]; simp [cleanL, Nat.not_lt.2 h, HB.out, HPL.out, HPS.out, q0]
      have HRES := Lib.hid hres
      clear hres q0
      go_wp2_with fail
      all_goals
        rw [Exit.noGoto_ret, ← HQ.out]
        have s1 := one_setCell (u := .string (B [])) N1.out
        have s2 : (w4.setCell ⟨w.heap.size, 0, none⟩ (.string (B []))).heap[w.heap.size + 1]? = _ := (Below.heap_setCell w4 ⟨w.heap.size, 0, none⟩ _ (w.heap.size + 1) (by show w.heap.size + 1 ≠ w.heap.size; omega)).trans N2.out
        have s3 := one_setCell (u := .int .i64 5) s2
        have s4 := (Below.heap_setCell (w4.setCell ⟨w.heap.size, 0, none⟩ (.string (B []))) ⟨w.heap.size + 1, 0, none⟩ (.int .i64 5) w.heap.size (by show w.heap.size ≠ w.heap.size + 1; omega)).trans s1
        rw [HRES.out]
        exact clean_leave D w.heap.size w _ _ _ _ rfl rfl s4 s3 (((KeepsOthers.setCell _ _ _).trans (KeepsOthers.setCell _ _ _)).same _ _ HK4.out rfl) (by omega) ((HB4.out.setCell (Nat.le_refl _) _).setCell (Nat.le_succ _) _)
    · have q1 : (joinP ps).isEmpty = false := by simpa using q0
      have hjs : (B (joinP ps)).size = (joinP ps).length := size_B _
      by_cases q2 : 100 < (joinP ps).length
      · have hres : r = ([], 3) := by rw [← HR.out]; simp [cleanL, Nat.not_lt.2 h, HB.out, HPL.out, HPS.out, q0, q2]
        have HRES := Lib.hid hres
        have q3 : (100 : Int) < ((joinP ps).length : Int) := by omega
        clear hres q0 q2
        go_wp2_with fail
        all_goals
          rw [Exit.noGoto_ret, ← HQ.out]
          have s1 := one_setCell (u := .string (B [])) N1.out
          have s2 : (w4.setCell ⟨w.heap.size, 0, none⟩ (.string (B []))).heap[w.heap.size + 1]? = _ := (Below.heap_setCell w4 ⟨w.heap.size, 0, none⟩ _ (w.heap.size + 1) (by show w.heap.size + 1 ≠ w.heap.size; omega)).trans N2.out
          have s3 := one_setCell (u := .int .i64 3) s2
          have s4 := (Below.heap_setCell (w4.setCell ⟨w.heap.size, 0, none⟩ (.string (B []))) ⟨w.heap.size + 1, 0, none⟩ (.int .i64 3) w.heap.size (by show w.heap.size ≠ w.heap.size + 1; omega)).trans s1
          rw [HRES.out]
          exact clean_leave D w.heap.size w _ _ _ _ rfl rfl s4 s3 (((KeepsOthers.setCell _ _ _).trans (KeepsOthers.setCell _ _ _)).same _ _ HK4.out rfl) (by omega) ((HB4.out.setCell (Nat.le_refl _) _).setCell (Nat.le_succ _) _)
      · have hres : r = (joinP ps, 0) := by rw [← HR.out]; simp [cleanL, Nat.not_lt.2 h, HB.out, HPL.out, HPS.out, q0, q2]
        have HRES := Lib.hid hres
        have q3 : ((joinP ps).length : Int) ≤ 100 := by omega
        clear hres q0 q2
        go_wp2_with fail
        all_goals
          rw [Exit.noGoto_ret, ← HQ.out]
          have s1 := one_setCell (u := .string (B (joinP ps))) N1.out
          have s2 : (w4.setCell ⟨w.heap.size, 0, none⟩ (.string (B (joinP ps)))).heap[w.heap.size + 1]? = _ := (Below.heap_setCell w4 ⟨w.heap.size, 0, none⟩ _ (w.heap.size + 1) (by show w.heap.size + 1 ≠ w.heap.size; omega)).trans N2.out
          have s3 := one_setCell (u := .int .i64 0) s2
          have s4 := (Below.heap_setCell (w4.setCell ⟨w.heap.size, 0, none⟩ (.string (B (joinP ps)))) ⟨w.heap.size + 1, 0, none⟩ (.int .i64 0) w.heap.size (by show w.heap.size ≠ w.heap.size + 1; omega)).trans s1
          rw [HRES.out]
          exact clean_leave D w.heap.size w _ _ _ _ rfl rfl s4 s3 (((KeepsOthers.setCell _ _ _).trans (KeepsOthers.setCell _ _ _)).same _ _ HK4.out rfl) (by omega) ((HB4.out.setCell (Nat.le_refl _) _).setCell (Nat.le_succ _) _)
  case stop =>
    rintro D c pre W hD hpre ⟨⟨rfl, hnone, ps, hinv⟩, hB⟩ hK
    have hres : r = ([], 5) := by rw [← HR.out]; simp [cleanL, Nat.not_lt.2 h, HB.out, HPL.out, hnone]
    have HRES := Lib.hid hres
    clear hres
    refine wpIn_wide.2 ?_
    go_wp2_with fail
    rw [Exit.noGoto_ret, ← HQ.out, HRES.out]
    exact clean_leave D w.heap.size w _ _ _ _ rfl rfl hinv.r1 hinv.r2 hK (by have := HZ0.out; have := HZ2.out; omega) hB
def path_Clean.f (a0 : ByteArray) : Option (ByteArray × Int) := some (B (cleanL a0.data.toList).1, (cleanL a0.data.toList).2)
theorem clean_any (l : List UInt8) (w : World) :
    Calls Tryz.prog 44 #[.string (B l)] w fun e w' => e = .returned (.tuple #[.string (B (cleanL l).1), .int .i64 (cleanL l).2]) ∧ Below w.heap.size w w' := by
  by_cases h1 : 1000 < l.length
  · have e : cleanL l = ([], 3) := by simp [cleanL, h1]
    rw [e]; exact clean_long l h1 w
  · by_cases h2 : l.head? = some 47
    · have e : cleanL l = ([], 5) := by simp [cleanL, h1, h2]
      rw [e]; exact clean_slash l (by omega) h2 w
    · by_cases h3 : l.all plainB = false
      · have e : cleanL l = ([], 5) := by rw [cleanL, if_neg h1, if_pos (.inr h3)]
        rw [e]; exact clean_bad l (by omega) h2 h3 w
      · exact clean_main l (by omega) h2 (by simpa using h3) _ rfl w
theorem path_Clean.calls (a0 : ByteArray) (r1 : ByteArray) (r2 : Int) (w : World) (h : path_Clean.f a0 = some (r1, r2)) :
    Calls Tryz.prog 44 #[.string a0] w fun e w' => e = .returned (.tuple #[.string r1, .int .i64 r2]) ∧ Below w.heap.size w w' := by
  have h' := Option.some.inj h
  obtain ⟨rfl, rfl⟩ : B (cleanL a0.data.toList).1 = r1 ∧ (cleanL a0.data.toList).2 = r2 := by
    constructor
    · exact congrArg Prod.fst h'
    · exact congrArg Prod.snd h'
  have := clean_any a0.data.toList w
  rwa [← B_of] at this
end Go.Proofs.YtapdchapjpnceaaGreatDoor.P
end
section
set_option linter.unusedSimpArgs false
set_option linter.unusedVariables false
namespace Go.Proofs.YtapdchapjpnceaaGreatDoor.PTh
open Go.RowKit Go.Proofs.YtapdchapjpnceaaGreatDoorW.PrintWords Go.Proofs.YtapdchapjpnceaaGreatDoor.U Go.Proofs.YtapdchapjpnceaaGreatDoor.P Go.Proofs.YtapdchapjpnceaaGreatDoor.Rng
abbrev sp (l : List UInt8) : List (List UInt8) := splitK 47 0 l
def Good (p : List UInt8) : Prop := p ≠ [] ∧ p ≠ [46] ∧ p ≠ [46, 46] ∧ (47 : UInt8) ∉ p
theorem sp_none (l : List UInt8) (h : (47 : UInt8) ∉ l) : sp l = [l] := splitK_none 47 0 l h
theorem sp_at (a l : List UInt8) (h : (47 : UInt8) ∉ a) : sp (a ++ 47 :: l) = a :: sp l := by
  have := splitK_at 47 0 a l h
  simpa using this
theorem joinP_nil : joinP [] = [] := rfl
theorem joinP_one (p : List UInt8) : joinP [p] = p := by simp [joinP, List.intercalate, List.intersperse]
theorem joinP_cons (p q : List UInt8) (ps : List (List UInt8)) : joinP (p :: q :: ps) = p ++ 47 :: joinP (q :: ps) := by
  simp [joinP, List.intercalate, List.intersperse]
theorem joinP_snoc (ps : List (List UInt8)) (h : ps ≠ []) (p : List UInt8) : joinP (ps ++ [p]) = joinP ps ++ 47 :: p := by
  induction ps with
  | nil => exact absurd rfl h
  | cons q ps ih =>
    cases ps with
    | nil => rw [joinP_one]; exact (joinP_cons q p []).trans (by rw [joinP_one])
    | cons r ps =>
      rw [List.cons_append, List.cons_append, joinP_cons, joinP_cons, ← List.cons_append, ih (by simp)]; simp
theorem joinP_append (ps qs : List (List UInt8)) (h : ps ≠ []) (h' : qs ≠ []) : joinP (ps ++ qs) = joinP ps ++ 47 :: joinP qs := by
  induction ps with
  | nil => exact absurd rfl h
  | cons q ps ih =>
    cases ps with
    | nil =>
      cases qs with
      | nil => exact absurd rfl h'
      | cons r qs => rw [joinP_one]; exact joinP_cons q r qs
    | cons r ps =>
      rw [List.cons_append, List.cons_append, joinP_cons, joinP_cons, ← List.cons_append, ih (by simp)]; simp
theorem sp_joinP (ps : List (List UInt8)) (h : ps ≠ []) (hp : ∀ p ∈ ps, (47 : UInt8) ∉ p) : sp (joinP ps) = ps := by
  induction ps with
  | nil => exact absurd rfl h
  | cons q ps ih =>
    cases ps with
    | nil => rw [joinP_one]; exact sp_none q (hp q (by simp))
    | cons r ps => rw [joinP_cons, sp_at _ _ (hp q (by simp)), ih (by simp) (fun p h => hp p (by simp [h]))]
theorem foldP_append (a b s : List (List UInt8)) : foldP (a ++ b) s = (foldP a s).bind (foldP b) := by
  induction a generalizing s with
  | nil => rfl
  | cons p a ih =>
    rw [List.cons_append]
    simp only [foldP]
    by_cases h1 : p = [] ∨ p = [46]
    · rw [if_pos h1, if_pos h1]; exact ih s
    · rw [if_neg h1, if_neg h1]
      by_cases h2 : p = [46, 46]
      · rw [if_pos h2, if_pos h2]
        by_cases h3 : s = []
        · rw [if_pos h3, if_pos h3]; rfl
        · rw [if_neg h3, if_neg h3]; exact ih _
      · rw [if_neg h2, if_neg h2]; exact ih _
structure IsClean (c : List UInt8) (ps : List (List UInt8)) : Prop where
  ne : ps ≠ []
  good : ∀ p ∈ ps, Good p
  plain : ∀ p ∈ ps, p.all plainB = true
  eq : c = joinP ps
  len : c.length ≤ 100
namespace IsClean
variable {c : List UInt8} {ps : List (List UInt8)} (h : IsClean c ps)
include h
theorem parts : sp c = ps := by rw [h.eq]; exact sp_joinP ps h.ne fun p hp => (h.good p hp).2.2.2
end IsClean
end Go.Proofs.YtapdchapjpnceaaGreatDoor.PTh
end
section
namespace Go.Proofs.YtapdchapjpnceaaGreatDoor.P
open Go.RowKit Go.Proofs.YtapdchapjpnceaaGreatDoorW.PrintWords Go.Proofs.YtapdchapjpnceaaGreatDoorW.PrintLast Go.Proofs.YtapdchapjpnceaaGreatDoorW.PrintMore
attribute [local go_sem] max2_int min2_int max_two min_two max_three min_three max_four min_four
set_option linter.unusedVariables false
set_option linter.unusedSimpArgs false
def errW : Option Int → Value
  | none => .nilIface
  | some c => .iface 0 (.int .i64 c)
theorem errW_none : errW none = .nilIface := rfl
theorem errW_some (c : Int) : errW (some c) = .iface 0 (.int .i64 c) := rfl
theorem info9 : (Tryz.prog.info? 9).map (fun i => (i.zero, i.size, i.bytes)) = some (some (.string ⟨#[]⟩), 1, 16) := by kernel_rfl
theorem info43 : (Tryz.prog.info? 43).map (fun i => (i.zero, i.size, i.bytes)) = some (some (.agg #[(.slice none 0 0), (.slice none 0 0), (.slice none 0 0), (.slice none 0 0), (.string ⟨#[]⟩), (.string ⟨#[]⟩)]), 6, 128) := by kernel_rfl
structure S38 where
  f0 : (List ByteArray)
  f1 : (List ByteArray)
  f2 : (List ByteArray)
  f3 : (List ByteArray)
  f4 : ByteArray
  f5 : ByteArray
def z38 : S38 := ⟨([] : List ByteArray), ([] : List ByteArray), ([] : List ByteArray), ([] : List ByteArray), (⟨#[]⟩ : ByteArray), (⟨#[]⟩ : ByteArray)⟩
def k38 : Kd S38 := Kd.iso (Kd.pair (Kd.slice 9 Kd.string) (Kd.pair (Kd.slice 9 Kd.string) (Kd.pair (Kd.slice 9 Kd.string) (Kd.pair (Kd.slice 9 Kd.string) (Kd.pair Kd.string Kd.string))))) (fun x : S38 => (x.f0, x.f1, x.f2, x.f3, x.f4, x.f5))
theorem k38_open {w : World} {x : S38} {cs : List Value} (h : k38.K w x cs) : ∃ A0 c0 A1 c1 A2 c2 A3 c3, cs = [.slice A0 x.f0.length c0, .slice A1 x.f1.length c1, .slice A2 x.f2.length c2, .slice A3 x.f3.length c3, .string x.f4, .string x.f5] ∧ x.f0.length ≤ c0 ∧ Kd.string.C w A0 x.f0.length x.f0 ∧ x.f1.length ≤ c1 ∧ Kd.string.C w A1 x.f1.length x.f1 ∧ x.f2.length ≤ c2 ∧ Kd.string.C w A2 x.f2.length x.f2 ∧ x.f3.length ≤ c3 ∧ Kd.string.C w A3 x.f3.length x.f3 := by
  obtain ⟨_, _, rfl, ⟨A0, c0, rfl, l0, g0⟩, ⟨_, _, rfl, ⟨A1, c1, rfl, l1, g1⟩, ⟨_, _, rfl, ⟨A2, c2, rfl, l2, g2⟩, ⟨_, _, rfl, ⟨A3, c3, rfl, l3, g3⟩, ⟨_, _, rfl, rfl, rfl⟩⟩⟩⟩⟩ := h
  exact ⟨A0, c0, A1, c1, A2, c2, A3, c3, rfl, l0, g0, l1, g1, l2, g2, l3, g3⟩
def rd_T38 (xs : List S38) (i : Int) : S38 := xs.getD i.toNat z38
theorem at_T38 {w : World} {A : Option Addr} {n : Nat} {xs : List S38} (h : Kd.C k38 w A n xs) (i : Int) (h0 : 0 ≤ i) (h1 : i < n) : ∃ ad A0 c0 A1 c1 A2 c2 A3 c3, A = some ad ∧ w.cell? (ad.add (i.toNat * 6)) = some (.slice A0 (rd_T38 xs i).f0.length c0) ∧ w.cell? ⟨(ad.add (i.toNat * 6)).block, (ad.add (i.toNat * 6)).off + 1, none⟩ = some (.slice A1 (rd_T38 xs i).f1.length c1) ∧ w.cell? ⟨(ad.add (i.toNat * 6)).block, (ad.add (i.toNat * 6)).off + 2, none⟩ = some (.slice A2 (rd_T38 xs i).f2.length c2) ∧ w.cell? ⟨(ad.add (i.toNat * 6)).block, (ad.add (i.toNat * 6)).off + 3, none⟩ = some (.slice A3 (rd_T38 xs i).f3.length c3) ∧ w.cell? ⟨(ad.add (i.toNat * 6)).block, (ad.add (i.toNat * 6)).off + 4, none⟩ = some (.string (rd_T38 xs i).f4) ∧ w.cell? ⟨(ad.add (i.toNat * 6)).block, (ad.add (i.toNat * 6)).off + 5, none⟩ = some (.string (rd_T38 xs i).f5) ∧ (rd_T38 xs i).f0.length ≤ c0 ∧ Kd.string.C w A0 (rd_T38 xs i).f0.length (rd_T38 xs i).f0 ∧ (rd_T38 xs i).f1.length ≤ c1 ∧ Kd.string.C w A1 (rd_T38 xs i).f1.length (rd_T38 xs i).f1 ∧ (rd_T38 xs i).f2.length ≤ c2 ∧ Kd.string.C w A2 (rd_T38 xs i).f2.length (rd_T38 xs i).f2 ∧ (rd_T38 xs i).f3.length ≤ c3 ∧ Kd.string.C w A3 (rd_T38 xs i).f3.length (rd_T38 xs i).f3 := by
  obtain ⟨ad, c, e, _, hK, hc0⟩ := Kd.C_get h z38 i h0 h1
  have hc : ∀ j u, c[j]? = some u → w.cell? (ad.add (i.toNat * 6 + j)) = some u := hc0
  obtain ⟨A0, c0, A1, c1, A2, c2, A3, c3, rfl, l0, g0, l1, g1, l2, g2, l3, g3⟩ := k38_open hK
  exact ⟨ad, A0, c0, A1, c1, A2, c2, A3, c3, e, hc 0 _ rfl, by rw [← add_field _ _ 1 (by omega)]; exact hc 1 _ rfl, by rw [← add_field _ _ 2 (by omega)]; exact hc 2 _ rfl, by rw [← add_field _ _ 3 (by omega)]; exact hc 3 _ rfl, by rw [← add_field _ _ 4 (by omega)]; exact hc 4 _ rfl, by rw [← add_field _ _ 5 (by omega)]; exact hc 5 _ rfl, l0, g0, l1, g1, l2, g2, l3, g3⟩
structure S43 where
  f0 : (List ByteArray)
  f1 : (List ByteArray)
  f2 : (List ByteArray)
  f3 : (List ByteArray)
  f4 : ByteArray
  f5 : ByteArray
def z43 : S43 := ⟨([] : List ByteArray), ([] : List ByteArray), ([] : List ByteArray), ([] : List ByteArray), (⟨#[]⟩ : ByteArray), (⟨#[]⟩ : ByteArray)⟩
def k43 : Kd S43 := Kd.iso (Kd.pair (Kd.slice 9 Kd.string) (Kd.pair (Kd.slice 9 Kd.string) (Kd.pair (Kd.slice 9 Kd.string) (Kd.pair (Kd.slice 9 Kd.string) (Kd.pair Kd.string Kd.string))))) (fun x : S43 => (x.f0, x.f1, x.f2, x.f3, x.f4, x.f5))
theorem k43_open {w : World} {x : S43} {cs : List Value} (h : k43.K w x cs) : ∃ A0 c0 A1 c1 A2 c2 A3 c3, cs = [.slice A0 x.f0.length c0, .slice A1 x.f1.length c1, .slice A2 x.f2.length c2, .slice A3 x.f3.length c3, .string x.f4, .string x.f5] ∧ x.f0.length ≤ c0 ∧ Kd.string.C w A0 x.f0.length x.f0 ∧ x.f1.length ≤ c1 ∧ Kd.string.C w A1 x.f1.length x.f1 ∧ x.f2.length ≤ c2 ∧ Kd.string.C w A2 x.f2.length x.f2 ∧ x.f3.length ≤ c3 ∧ Kd.string.C w A3 x.f3.length x.f3 := by
  obtain ⟨_, _, rfl, ⟨A0, c0, rfl, l0, g0⟩, ⟨_, _, rfl, ⟨A1, c1, rfl, l1, g1⟩, ⟨_, _, rfl, ⟨A2, c2, rfl, l2, g2⟩, ⟨_, _, rfl, ⟨A3, c3, rfl, l3, g3⟩, ⟨_, _, rfl, rfl, rfl⟩⟩⟩⟩⟩ := h
  exact ⟨A0, c0, A1, c1, A2, c2, A3, c3, rfl, l0, g0, l1, g1, l2, g2, l3, g3⟩
theorem k43_mk (w : World) (x : S43) {A0 : Option Addr} {c0 : Nat} (l0 : x.f0.length ≤ c0) (g0 : Kd.string.C w A0 x.f0.length x.f0) {A1 : Option Addr} {c1 : Nat} (l1 : x.f1.length ≤ c1) (g1 : Kd.string.C w A1 x.f1.length x.f1) {A2 : Option Addr} {c2 : Nat} (l2 : x.f2.length ≤ c2) (g2 : Kd.string.C w A2 x.f2.length x.f2) {A3 : Option Addr} {c3 : Nat} (l3 : x.f3.length ≤ c3) (g3 : Kd.string.C w A3 x.f3.length x.f3) : k43.K w x [.slice A0 x.f0.length c0, .slice A1 x.f1.length c1, .slice A2 x.f2.length c2, .slice A3 x.f3.length c3, .string x.f4, .string x.f5] := ⟨[.slice A0 x.f0.length c0], [.slice A1 x.f1.length c1, .slice A2 x.f2.length c2, .slice A3 x.f3.length c3, .string x.f4, .string x.f5], rfl, ⟨A0, c0, rfl, l0, g0⟩, ⟨[.slice A1 x.f1.length c1], [.slice A2 x.f2.length c2, .slice A3 x.f3.length c3, .string x.f4, .string x.f5], rfl, ⟨A1, c1, rfl, l1, g1⟩, ⟨[.slice A2 x.f2.length c2], [.slice A3 x.f3.length c3, .string x.f4, .string x.f5], rfl, ⟨A2, c2, rfl, l2, g2⟩, ⟨[.slice A3 x.f3.length c3], [.string x.f4, .string x.f5], rfl, ⟨A3, c3, rfl, l3, g3⟩, ⟨[.string x.f4], [.string x.f5], rfl, rfl, rfl⟩⟩⟩⟩⟩
theorem k43_mkM (w : World) (base : Nat) (ok : Nat → Prop) (x : S43) {v0 : Value} (g0 : Kd.string.R 9 w base ok v0 x.f0) {v1 : Value} (g1 : Kd.string.R 9 w base ok v1 x.f1) {v2 : Value} (g2 : Kd.string.R 9 w base ok v2 x.f2) {v3 : Value} (g3 : Kd.string.R 9 w base ok v3 x.f3) : k43.M w base ok x [v0, v1, v2, v3, .string x.f4, .string x.f5] := ⟨[v0], [v1, v2, v3, .string x.f4, .string x.f5], rfl, ⟨v0, rfl, g0⟩, ⟨[v1], [v2, v3, .string x.f4, .string x.f5], rfl, ⟨v1, rfl, g1⟩, ⟨[v2], [v3, .string x.f4, .string x.f5], rfl, ⟨v2, rfl, g2⟩, ⟨[v3], [.string x.f4, .string x.f5], rfl, ⟨v3, rfl, g3⟩, ⟨[.string x.f4], [.string x.f5], rfl, rfl, rfl⟩⟩⟩⟩⟩
theorem k43_mkF (W : World) (ok : Nat → Prop) (x : S43) {A0 : Option Addr} {c0 : Nat} (l0 : x.f0.length ≤ c0) (g0 : Kd.F Kd.string W ok A0 x.f0.length x.f0) {A1 : Option Addr} {c1 : Nat} (l1 : x.f1.length ≤ c1) (g1 : Kd.F Kd.string W ok A1 x.f1.length x.f1) {A2 : Option Addr} {c2 : Nat} (l2 : x.f2.length ≤ c2) (g2 : Kd.F Kd.string W ok A2 x.f2.length x.f2) {A3 : Option Addr} {c3 : Nat} (l3 : x.f3.length ≤ c3) (g3 : Kd.F Kd.string W ok A3 x.f3.length x.f3) : Kd.FK k43 W ok x [.slice A0 x.f0.length c0, .slice A1 x.f1.length c1, .slice A2 x.f2.length c2, .slice A3 x.f3.length c3, .string x.f4, .string x.f5] := fun W2 hW => k43_mk W2 x l0 (g0 W2 hW) l1 (g1 W2 hW) l2 (g2 W2 hW) l3 (g3 W2 hW)
def rd_T43 (xs : List S43) (i : Int) : S43 := xs.getD i.toNat z43
theorem at_T43 {w : World} {A : Option Addr} {n : Nat} {xs : List S43} (h : Kd.C k43 w A n xs) (i : Int) (h0 : 0 ≤ i) (h1 : i < n) : ∃ ad A0 c0 A1 c1 A2 c2 A3 c3, A = some ad ∧ w.cell? (ad.add (i.toNat * 6)) = some (.slice A0 (rd_T43 xs i).f0.length c0) ∧ w.cell? ⟨(ad.add (i.toNat * 6)).block, (ad.add (i.toNat * 6)).off + 1, none⟩ = some (.slice A1 (rd_T43 xs i).f1.length c1) ∧ w.cell? ⟨(ad.add (i.toNat * 6)).block, (ad.add (i.toNat * 6)).off + 2, none⟩ = some (.slice A2 (rd_T43 xs i).f2.length c2) ∧ w.cell? ⟨(ad.add (i.toNat * 6)).block, (ad.add (i.toNat * 6)).off + 3, none⟩ = some (.slice A3 (rd_T43 xs i).f3.length c3) ∧ w.cell? ⟨(ad.add (i.toNat * 6)).block, (ad.add (i.toNat * 6)).off + 4, none⟩ = some (.string (rd_T43 xs i).f4) ∧ w.cell? ⟨(ad.add (i.toNat * 6)).block, (ad.add (i.toNat * 6)).off + 5, none⟩ = some (.string (rd_T43 xs i).f5) ∧ (rd_T43 xs i).f0.length ≤ c0 ∧ Kd.string.C w A0 (rd_T43 xs i).f0.length (rd_T43 xs i).f0 ∧ (rd_T43 xs i).f1.length ≤ c1 ∧ Kd.string.C w A1 (rd_T43 xs i).f1.length (rd_T43 xs i).f1 ∧ (rd_T43 xs i).f2.length ≤ c2 ∧ Kd.string.C w A2 (rd_T43 xs i).f2.length (rd_T43 xs i).f2 ∧ (rd_T43 xs i).f3.length ≤ c3 ∧ Kd.string.C w A3 (rd_T43 xs i).f3.length (rd_T43 xs i).f3 := by
  obtain ⟨ad, c, e, _, hK, hc0⟩ := Kd.C_get h z43 i h0 h1
  have hc : ∀ j u, c[j]? = some u → w.cell? (ad.add (i.toNat * 6 + j)) = some u := hc0
  obtain ⟨A0, c0, A1, c1, A2, c2, A3, c3, rfl, l0, g0, l1, g1, l2, g2, l3, g3⟩ := k43_open hK
  exact ⟨ad, A0, c0, A1, c1, A2, c2, A3, c3, e, hc 0 _ rfl, by rw [← add_field _ _ 1 (by omega)]; exact hc 1 _ rfl, by rw [← add_field _ _ 2 (by omega)]; exact hc 2 _ rfl, by rw [← add_field _ _ 3 (by omega)]; exact hc 3 _ rfl, by rw [← add_field _ _ 4 (by omega)]; exact hc 4 _ rfl, by rw [← add_field _ _ 5 (by omega)]; exact hc 5 _ rfl, l0, g0, l1, g1, l2, g2, l3, g3⟩
end Go.Proofs.YtapdchapjpnceaaGreatDoor.P
end
section
namespace Go.Proofs.YtapdchapjpnceaaGreatDoor.P
open Go.RowKit Go.Proofs.YtapdchapjpnceaaGreatDoorW.PrintWords Go.Proofs.YtapdchapjpnceaaGreatDoorW.PrintLast Go.Proofs.YtapdchapjpnceaaGreatDoorW.PrintMore
attribute [local go_sem] max2_int min2_int max_two min_two max_three min_three max_four min_four
set_option linter.unusedVariables false
set_option linter.unusedSimpArgs false
def path_Right.f (a0 : ByteArray) : Option (Bool) := (path_Clean.f a0).bind fun bt276 => (if bt276.2 = 0 then (some (bt276.1.toList == a0.toList)) else (some false))
set_option maxHeartbeats 8000000 in
set_option maxRecDepth 100000 in
theorem path_Right.calls (a0 : ByteArray) (r : Bool) (w : World) (h : path_Right.f a0 = some r) :
    Calls Tryz.prog 33 #[.string a0] w fun e w' => e = .returned (.bool r) ∧ Below w.heap.size w w' := by
  have HB := Aside0.mk (Below.refl w.heap.size w)
  have H : ((path_Clean.f a0).bind fun bt276 => (if bt276.2 = 0 then (some (bt276.1.toList == a0.toList)) else (some false))) = some r := h
  clear h
  replace H := Option.bind_eq_some_iff.mp H
  obtain ⟨⟨t276, t277⟩, A20, H⟩ := H
  replace H : (if t277 = 0 then (some (t276.toList == a0.toList)) else (some false)) = some r := H
  have A2 := Aside0.mk A20
  clear A20
  by_cases c3 : t277 = 0
  · rw [if_pos c3] at H
    have c3b0 : (t277 == 0) = true := beq_iff_eq.mpr c3
    have c3b1 : (t277 != 0) = false := bne_eq_false_iff_eq.mpr c3
    clear c3
    obtain rfl := Option.some.inj H
    go_enter Tryz.func33, Tryz.ntmps33
    go_wp2_with (first | ((with_reducible refine gate_callee (f := 44) rfl ?_); refine goesL_ (some 7) rfl rfl Tryz.func44 (by kernel_rfl) rfl #[.string a0] rfl (by (try simp only [List.map_toArray, List.map_cons, List.map_nil]); first | done | rfl | (simp only [List.length_drop, List.length_take]; rfl)) ?_; (with_reducible refine (path_Clean.calls a0 t276 t277 _ A2.out).mono ?_); rintro e w4 ⟨rfl, hb⟩; refine ⟨_, rfl, ?_⟩; have n0_ := Aside0.mk (below_step (by repeat (first | (with_reducible first | exact HB.out | apply below_alloc | apply pw_below_drewN | apply below_drew1) | exact HB.out)) hb); clear HB; have HB := n0_; clear n0_; (try clear hb); (try clear hb2); (try clear hk); (try clear hi)))
    go_ret
    exact ⟨by first | rfl | (simp [errW_none, errW_some] <;> rfl) | (simp [*, errW_none, errW_some] <;> rfl), by repeat (first | (with_reducible first | exact HB.out | apply below_alloc | apply pw_below_drewN | apply below_drew1) | exact HB.out)⟩
  · rw [if_neg c3] at H
    have c3b0 : (t277 == 0) = false := beq_eq_false_iff_ne.mpr c3
    have c3b1 : (t277 != 0) = true := bne_iff_ne.mpr c3
    obtain rfl := Option.some.inj H
    go_enter Tryz.func33, Tryz.ntmps33
    go_wp2_with (first | ((with_reducible refine gate_callee (f := 44) rfl ?_); refine goesL_ (some 7) rfl rfl Tryz.func44 (by kernel_rfl) rfl #[.string a0] rfl (by (try simp only [List.map_toArray, List.map_cons, List.map_nil]); first | done | rfl | (simp only [List.length_drop, List.length_take]; rfl)) ?_; (with_reducible refine (path_Clean.calls a0 t276 t277 _ A2.out).mono ?_); rintro e w5 ⟨rfl, hb⟩; refine ⟨_, rfl, ?_⟩; have n0_ := Aside0.mk (below_step (by repeat (first | (with_reducible first | exact HB.out | apply below_alloc | apply pw_below_drewN | apply below_drew1) | exact HB.out)) hb); clear HB; have HB := n0_; clear n0_; (try clear hb); (try clear hb2); (try clear hk); (try clear hi)))
    go_ret
    exact ⟨by first | rfl | (simp [errW_none, errW_some] <;> rfl) | (simp [*, errW_none, errW_some] <;> rfl), by repeat (first | (with_reducible first | exact HB.out | apply below_alloc | apply pw_below_drewN | apply below_drew1) | exact HB.out)⟩
def path_Right.Pure : Prop := ∀ (a0 : ByteArray), a0.size ≤ 140737488351232 → path_Right.f a0 = some true
theorem path_Right.walk (P : path_Right.Pure) (a0 : ByteArray) (w : World) (w0 : a0.size ≤ 140737488351232) :
    Calls Tryz.prog 33 #[.string a0] w fun e w' => e = .returned (.bool true) ∧ Below w.heap.size w w' := by
  have h := P a0 w0
  refine (path_Right.calls a0 true w h).mono ?_
  rintro e w' ⟨rfl, hd⟩
  exact ⟨rfl, hd⟩
end Go.Proofs.YtapdchapjpnceaaGreatDoor.P
end
section
set_option linter.unusedSimpArgs false
set_option linter.unusedVariables false
namespace Go.Proofs.YtapdchapjpnceaaGreatDoor.PTh
open Go.RowKit Go.Proofs.YtapdchapjpnceaaGreatDoorW.PrintWords Go.Proofs.YtapdchapjpnceaaGreatDoor.U Go.Proofs.YtapdchapjpnceaaGreatDoor.P Go.Proofs.YtapdchapjpnceaaGreatDoor.Rng
theorem Clean_f (l : List UInt8) : path_Clean.f (B l) = some (B (cleanL l).1, (cleanL l).2) := rfl
theorem Right_f (l : List UInt8) : path_Right.f (B l) = some (decide (cleanL l = (l, 0))) := by
  rw [path_Right.f, Clean_f, Option.bind_some]
  simp only [toList_B]
  by_cases h : (cleanL l).2 = 0
  · rw [if_pos h]
    congr 1
    rw [Bool.eq_iff_iff, beq_iff_eq, decide_eq_true_iff]
    exact ⟨fun e => Prod.ext e h, fun e => by rw [e]⟩
  · rw [if_neg h]
    congr 1
    symm
    rw [decide_eq_false_iff_not]
    intro e; rw [e] at h; exact h rfl
end Go.Proofs.YtapdchapjpnceaaGreatDoor.PTh
end
section
set_option linter.unusedSimpArgs false
set_option linter.unusedVariables false
namespace Go.Proofs.YtapdchapjpnceaaGreatDoor.P
open Go.RowKit Go.Lib Go.Shelf Go.Proofs.YtapdchapjpnceaaGreatDoorW.PrintWords Go.Proofs.YtapdchapjpnceaaGreatDoorW.PrintLast Go.Proofs.YtapdchapjpnceaaGreatDoorW.PrintMore Go.Proofs.YtapdchapjpnceaaGreatDoor.U Go.Proofs.YtapdchapjpnceaaGreatDoor.PTh
def rightL (l : List UInt8) : Bool := decide (cleanL l = (l, 0))
set_option maxRecDepth 100000 in
set_option maxHeartbeats 2000000 in
theorem pred_any (l : List UInt8) (w : World) :
    Calls Tryz.prog 32 #[.string (B l)] w fun e w' => e = .returned (.bool (!rightL l)) ∧ Below w.heap.size w w' := by
  have hR := Lib.hid (fun W => path_Right.calls (B l) (rightL l) W (Right_f l))
  go_enter Tryz.func32, Tryz.ntmps32
  go_wp2_with fail
  refine (hR.out _).mono ?_
  rintro e w1 ⟨rfl, hb⟩
  go_wp2_with fail
  go_ret
  exact ⟨rfl, hb⟩
set_option maxRecDepth 100000 in
set_option maxHeartbeats 4000000 in
theorem idx_any (g cap : Nat) (xs : List (List UInt8)) (w : World) (hc : ∀ j (h : j < xs.length), w.cell? ⟨g, j, none⟩ = some (.string (B xs[j]))) (hg : g < w.heap.size) (hn : xs.length < 1000000) :
    Calls Tryz.prog 42 #[.slice (some ⟨g, 0, none⟩) xs.length cap, .func (.func 32) #[] #[]] w fun e w' =>
      ∃ k : Int, e = .returned (.int .i64 k) ∧ decide (0 ≤ k) = (!xs.all rightL) ∧ Below w.heap.size w w' := by
  obtain ⟨N, hN⟩ : ∃ N, xs.length = N := ⟨_, rfl⟩
  have hcH := Lib.hid hc
  clear hc
  rw [hN] at hn ⊢
  go_enter Tryz.func42, Tryz.ntmps42
  go_wp2_with fail
  go_loopg [8] N (fun gk s8 wr => ∃ i : Nat, s8 = .int .i64 (i : Int) ∧ i + gk = N ∧ Hid ((xs.take i).all rightL = true) ∧ Hid (Below w.heap.size w wr))
  case atStart => exact ⟨0, rfl, Nat.zero_add _, rfl, Below.refl _ _⟩
  case round =>
    obtain ⟨i, rfl, hik, hA, hB⟩ := hrel
    cases gk with
    | zero =>
      obtain rfl : i = N := by omega
      have hlt : decide ((i : Int) < (i : Int)) = false := by simp
      go_wp2_with fail
      go_ret
      refine ⟨_, rfl, ?_, hB.out⟩
      have := hA.out
      rw [← hN, List.take_length] at this
      rw [this]; rfl
    | succ gk =>
      have hiN : i < xs.length := by omega
      have hlt : decide ((i : Int) < (N : Int)) = true := by rw [decide_eq_true_iff]; omega
      obtain ⟨x, hx⟩ : ∃ x, xs[i] = x := ⟨_, rfl⟩
      have hcell : wr.cell? ⟨g, i, none⟩ = some (.string (B x)) := by
        rw [hB.out.cell (p := ⟨g, i, none⟩) hg, hcH.out i hiN, hx]
      have hP := Lib.hid (fun W => pred_any x W)
      have htake : xs.take (i + 1) = xs.take i ++ [x] := by rw [List.take_succ_eq_append_getElem hiN, hx]
      go_wp2_with fail
      refine (hP.out _).mono ?_
      rintro e w2 ⟨rfl, hb2⟩
      have hB2 := Lib.hid (hB.out.trans (hb2.mono hB.out.size))
      clear hb2
      cases hr : rightL x with
      | false =>
        go_wp2_with fail
        go_ret
        refine ⟨_, rfl, ?_, hB2.out⟩
        have : xs.all rightL = false := by
          rw [← List.take_append_drop (i + 1) xs, List.all_append, htake, List.all_append]; simp [hr]
        rw [this]
        simp
      | true =>
        have hA2 : Hid ((xs.take (i + 1)).all rightL = true) := by
          show _ = _
          rw [htake, List.all_append, hA.out]; simp [hr]
        go_wp2_with fail
        go_roundg gk
        case measure => omega
        case rel => exact ⟨i + 1, by first | rfl | simp, by omega, hA2, hB2⟩
set_option maxRecDepth 100000 in
set_option maxHeartbeats 2000000 in
theorem idx_none (w : World) (c : Nat) :
    Calls Tryz.prog 42 #[.slice none 0 c, .func (.func 32) #[] #[]] w fun e w' => e = .returned (.int .i64 (-1)) ∧ w = w' := by
  go_enter Tryz.func42, Tryz.ntmps42
  go_wp2_with fail
  go_loopg [8] 0 (fun gk s8 wr => s8 = .int .i64 0 ∧ w = wr)
  case atStart => exact ⟨rfl, rfl⟩
  case round =>
    obtain ⟨rfl, rfl⟩ := hrel
    go_wp2_with fail
    go_ret
    exact ⟨rfl, rfl⟩
set_option maxRecDepth 100000 in
set_option maxHeartbeats 2000000 in
theorem contains_own (v : Value) (b : Nat) (xs : List (List UInt8)) (w : World) (hO : w.ownsRow b 9 1 v xs.length (xs.map fun t => Value.string (B t))) (hn : xs.length < 1000000) :
    Calls Tryz.prog 30 #[v, .func (.func 32) #[] #[]] w fun e w' =>
      e = .returned (.bool (!xs.all rightL)) ∧ Below w.heap.size w w' := by
  rcases hO.2 with ⟨rfl, h0⟩ | ⟨g, cap, cur, rfl, hg, hh, _, _, _, htk⟩
  · have hx : xs = [] := List.length_eq_zero_iff.1 h0
    subst hx
    have hI := Lib.hid (idx_none w 0)
    clear hO
    go_enter Tryz.func30, Tryz.ntmps30
    go_wp2_with fail
    refine hI.out.mono ?_
    rintro e w1 ⟨rfl, rfl⟩
    go_wp2_with fail
    go_ret
    exact ⟨rfl, Below.refl _ _⟩
  · have hI := Lib.hid (idx_any g cap xs w (fun j hj => by
      rw [cell_of_heap hh]
      have h3 : (cur.toList.take (xs.length * 1))[j]? = some (.string (B xs[j])) := by rw [htk, List.getElem?_map, List.getElem?_eq_getElem hj]; rfl
      rw [List.getElem?_take_of_lt (by omega)] at h3
      simpa using h3) (Array.getElem?_eq_some_iff.1 hh).1 hn)
    generalize xs.all rightL = r at *
    clear hO htk hh
    go_enter Tryz.func30, Tryz.ntmps30
    go_wp2_with fail
    refine hI.out.mono ?_
    rintro e w1 ⟨k, rfl, hk, hb⟩
    go_wp2_with fail
    go_ret
    exact ⟨rfl, hb⟩
end Go.Proofs.YtapdchapjpnceaaGreatDoor.P
end
section
set_option linter.unusedVariables false
namespace Go.Proofs.YtapdchapjpnceaaGreatDoor.P
open Go.RowKit Go.Proofs.YtapdchapjpnceaaGreatDoorW.PrintWords Go.Proofs.YtapdchapjpnceaaGreatDoorW.PrintLast Go.Proofs.YtapdchapjpnceaaGreatDoorW.PrintMore
def joinB (l : List ByteArray) (s : ByteArray) : ByteArray := ⟨(Lib.join (l.map (·.data.toList)) s.data.toList).toArray⟩
def strings_Join.f (l0 : List ByteArray) (a1 : ByteArray) : Option ByteArray := if l0.length ≤ 140737488355328 ∧ (Lib.join (l0.map (·.data.toList)) a1.data.toList).length ≤ 140737488355328 then some (joinB l0 a1) else none
theorem addr_plain {w : World} {ad : Addr} {v : Value} (h : w.cell? ad = some v) : ad = ⟨ad.block, ad.off, none⟩ := by
  obtain ⟨b, o, s⟩ := ad
  cases s with
  | none => rfl
  | some s =>
    unfold World.cell? at h
    simp only [Option.isSome_some, if_true] at h
    split at h <;> cases h
theorem strings_Join.calls (A0 : Option Addr) (c0 : Nat) (l0 : List ByteArray) (a1 : ByteArray) (r : ByteArray) (w : World) (hr0 : Kd.C Kd.string w A0 l0.length l0) (hc0 : l0.length ≤ c0) (h : strings_Join.f l0 a1 = some r) :
    Calls Tryz.prog 28 #[.slice A0 l0.length c0, .string a1] w fun e w' => e = .returned (.string r) ∧ Below w.heap.size w w' := by
  unfold strings_Join.f at h
  split at h
  · rename_i hc
    obtain rfl : joinB l0 a1 = r := Option.some.inj h
    by_cases h0 : l0 = []
    · subst h0
      exact (Tryz.strings_Join_none A0 c0 a1 w).mono fun e w' ⟨he, hw⟩ => ⟨he, hw ▸ Below.refl _ _⟩
    · have hpos : 0 < l0.length := List.length_pos_iff.2 h0
      obtain ⟨ad, rfl, hcell⟩ := hr0.2.2 hpos
      have hcs : ∀ (j : Nat) x, l0[j]? = some x → w.cell? (ad.add j) = some (.string x) := by
        intro j x hj
        obtain ⟨c, _, hK, hv⟩ := hcell j x hj
        have hK' : c = [.string x] := hK
        subst hK'
        have := hv 0 (.string x) rfl
        rwa [show j * Kd.string.sz + 0 = j by show j * 1 + 0 = j; omega] at this
      have hz := hcs 0 l0[0] (List.getElem?_eq_getElem hpos)
      have hz' : w.cell? ad = some (.string l0[0]) := by rw [show ad.add 0 = ad by simp [Addr.add]] at hz; exact hz
      have had := addr_plain hz'
      rw [had]
      refine Tryz.strings_Join ad.block ad.off c0 l0 a1 w (fun j x hj => ?_) (World.block_lt_of_cell? w ad hz') hc.1 hc0 hc.2
      have := hcs j x hj
      rw [had] at this
      unfold Addr.add at this
      by_cases hj0 : j = 0
      · subst hj0; simpa using this
      · simpa [hj0] using this
  · cases h
end Go.Proofs.YtapdchapjpnceaaGreatDoor.P
end
section
set_option linter.unusedSimpArgs false
set_option linter.unusedVariables false
namespace Go.Proofs.YtapdchapjpnceaaGreatDoor.P
open Go.RowKit Go.Lib Go.Shelf Go.Proofs.YtapdchapjpnceaaGreatDoorW.PrintWords Go.Proofs.YtapdchapjpnceaaGreatDoorW.PrintLast Go.Proofs.YtapdchapjpnceaaGreatDoorW.PrintMore Go.Proofs.YtapdchapjpnceaaGreatDoor.U
theorem infoStr9 : (Tryz.prog.info? 9).map (fun i => (i.zero, i.size, i.bytes)) = some (some (.string ⟨#[]⟩), 1, 16) := by kernel_rfl
theorem zeros_one (z : Value) (n : Nat) (hz : z.cells = #[z]) : (Builtin.zeroCells z.cells n).size = n := by
  rw [hz]; simp [Builtin.zeroCells]
set_option maxRecDepth 100000 in
set_option maxHeartbeats 4000000 in
theorem Grow_nil (n : Nat) (hn : n ≤ 1000000) (w : World) :
    Calls Tryz.prog 43 #[.slice none 0 0, .int .i64 (n : Int)] w fun e w' => ∃ g cap, e = .returned (.slice g 0 cap) ∧ w'.ownsRow w.heap.size 9 1 (.slice g 0 cap) 0 [] ∧ Below w.heap.size w w' := by
  have h1 : decide ((n : Int) < 0) = false := by rw [decide_eq_false_iff_not]; omega
  by_cases h0 : n = 0
  · subst h0
    go_enter Tryz.func43, Tryz.ntmps43
    go_wp2_with fail
    go_ret
    exact ⟨none, 0, rfl, own_nil _ _ _ _, Below.refl _ _⟩
  · have h2 : decide ((0 : Int) < (n : Int)) = true := by rw [decide_eq_true_iff]; omega
    obtain ⟨i0, hi, hzz⟩ := Option.map_eq_some_iff.1 infoStr9
    simp only [Prod.mk.injEq] at hzz
    obtain ⟨hz, hs, hb⟩ := hzz
    have hr : (Builtin.append_ #[23, 3] 23 #[.slice none 0 0, .int .i64 (n : Int)]).run Tryz.prog w = .ok (.slice (some ⟨w.heap.size, 0, none⟩) n (grownCap w n 0 9)) (w.drew.alloc (.cells ((#[] : Array Value) ++ Builtin.zeroCells (Value.string ⟨#[]⟩).cells n ++ Builtin.zeroCells (Value.string ⟨#[]⟩).cells (grownCap w n 0 9 - n)) 9)) := by
      have h := Lib.run_append_grow_zeros (P := Tryz.prog) w 23 3 23 9 i0 (.string ⟨#[]⟩) .i64 .i64 Tryz.underlying23 Tryz.underlying3 hi hz none 0 0 [] (run_firstCells_none w.drew i0.size 0 0 0) n (by omega) (by rw [hs]; decide) (by omega) (by omega) (by rw [hb]; omega) (by rw [hb]; exact growslice_fits (by omega) (by omega))
      simpa using h
    have hG := grownCap_ge w n 0 9
    have hGm := grownCap_le_maxLen w n 0 9 (by unfold maxLen; omega)
    have hsz : ((#[] : Array Value) ++ Builtin.zeroCells (Value.string ⟨#[]⟩).cells n ++ Builtin.zeroCells (Value.string ⟨#[]⟩).cells (grownCap w n 0 9 - n)).size = grownCap w n 0 9 := by
      have a1 := zeros_one (.string ⟨#[]⟩) n rfl
      have a2 := zeros_one (.string ⟨#[]⟩) (grownCap w n 0 9 - n) rfl
      rw [Array.size_append, Array.size_append]
      have e1 : (Builtin.zeroCells (Value.string ⟨#[]⟩).cells n).size = n := a1
      have e2 : (Builtin.zeroCells (Value.string ⟨#[]⟩).cells (grownCap w n 0 9 - n)).size = grownCap w n 0 9 - n := a2
      rw [e1, e2]; simp; omega
    generalize (#[] : Array Value) ++ Builtin.zeroCells (Value.string ⟨#[]⟩).cells n ++ Builtin.zeroCells (Value.string ⟨#[]⟩).cells (grownCap w n 0 9 - n) = cells at *
    generalize grownCap w n 0 9 = G at *
    clear hi hz hs hb
    go_enter Tryz.func43, Tryz.ntmps43
    go_wp2_with (at_builtin; go_loud (refine Lib.wpList_append_run _ rfl _ _ _ _ rfl _ _ rfl rfl _ _ hr ?_))
    go_ret
    refine ⟨some ⟨w.heap.size, 0, none⟩, G, rfl, ⟨by simp, .inr ⟨w.heap.size, G, cells, rfl, Nat.le_refl _, ?_, Nat.zero_le _, hGm, by rw [hsz]; omega, by simp⟩⟩, ?_⟩
    · exact heap_alloc_new w _
    · exact ((Below.refl _ w).alloc (Nat.le_refl _) _).drew
theorem reps_str2 {R : ByteArray → List Value → Prop} (hR : ∀ x c, R x c → c = [Value.string x]) : ∀ (ps : List ByteArray) (cs : List Value), Reps R 1 ps cs → cs = ps.map Value.string := by
  intro ps cs h
  refine List.ext_getElem? fun j => ?_
  have hl := h.1
  rw [Nat.mul_one] at hl
  by_cases hj : j < ps.length
  · have h1 := hR _ _ (h.2 j _ (List.getElem?_eq_getElem hj))
    rw [Nat.mul_one] at h1
    have h2 : ((cs.drop j).take 1)[0]? = some (.string ps[j]) := by rw [h1]; rfl
    rw [List.getElem?_take_of_lt (by omega), List.getElem?_drop, Nat.add_zero] at h2
    rw [h2, List.getElem?_map, List.getElem?_eq_getElem hj]; rfl
  · rw [List.getElem?_eq_none (by omega), List.getElem?_eq_none (by simp; omega)]
structure NRow where
  A : Option Addr
  c : Nat
  l : List (List UInt8)
def RowsAt (w : World) (R : Nat) (rows : List NRow) : Prop := ∀ i (h : i < rows.length), w.cell? ⟨R, i, none⟩ = some (.slice rows[i].A rows[i].l.length rows[i].c) ∧ rows[i].l.length ≤ rows[i].c ∧ Kd.C Kd.string w rows[i].A rows[i].l.length (rows[i].l.map B)
def catL (rows : List NRow) : List (List UInt8) := (rows.map (·.l)).flatten
theorem catL_take (rows : List NRow) (i : Nat) (h : i < rows.length) : catL (rows.take (i + 1)) = catL (rows.take i) ++ rows[i].l := by
  unfold catL; rw [List.take_succ_eq_append_getElem h, List.map_append, List.flatten_append, List.map_cons, List.map_nil, List.flatten_cons, List.flatten_nil, List.append_nil]
theorem catL_le (rows : List NRow) (i : Nat) : (catL (rows.take i)).length ≤ (catL rows).length := by
  have h : rows = rows.take i ++ rows.drop i := (List.take_append_drop i rows).symm
  have : catL rows = catL (rows.take i) ++ catL (rows.drop i) := by
    conv => lhs; rw [h]
    unfold catL; rw [List.map_append, List.flatten_append]
  rw [this]; simp
set_option maxRecDepth 100000 in
set_option maxHeartbeats 8000000 in
theorem Concat_any (R cp : Nat) (rows : List NRow) (w : World) (hA : RowsAt w R rows) (hR : R < w.heap.size) (hn : rows.length ≤ 100) (ht : (catL rows).length ≤ 100000) :
    Calls Tryz.prog 31 #[.slice (some ⟨R, 0, none⟩) rows.length cp] w fun e w' => ∃ v, e = .returned v ∧ w'.ownsRow w.heap.size 9 1 v (catL rows).length ((catL rows).map fun t => Value.string (B t)) ∧ Below w.heap.size w w' := by
  obtain ⟨n, hN⟩ : ∃ n, rows.length = n := ⟨_, rfl⟩
  have hAH := Lib.hid hA
  have hNH := Lib.hid hN
  rw [hN] at hn ⊢
  clear hA hN
  go_enter Tryz.func31, Tryz.ntmps31
  go_wp2_with fail
  go_loopg [3, 11] n (fun gk s3 s11 wr => ∃ i m : Nat, s11 = .int .i64 (i : Int) ∧ i + gk = n ∧ s3 = .int .i64 (m : Int) ∧ Hid (m = (catL (rows.take i)).length) ∧ w = wr)
  case atStart => exact ⟨0, 0, rfl, Nat.zero_add _, rfl, rfl, rfl⟩
  case round =>
    obtain ⟨i, m, rfl, hik, rfl, hm, rfl⟩ := hrel
    cases gk with
    | zero =>
      obtain rfl : i = n := by omega
      have hlt : decide ((i : Int) < (i : Int)) = false := by simp
      have hmm : m ≤ 100000 := by have := catL_le rows i; rw [hm.out]; omega
      have hG := Lib.hid (Grow_nil m (by omega) w)
      go_wp2_with fail
      refine hG.out.mono ?_
      rintro e w1 ⟨g, cap, rfl, hown, hb1⟩
      have hO0 : Hid (Kd.R Kd.string 9 w1 w.heap.size (fun _ => True) (.slice g 0 cap) []) := Kd.R_of_own (enc := Value.string) (by simpa [encs] using hown) (fun _ _ => trivial)
      have hB0 := Lib.hid hb1
      clear hown hb1 hm hG
      go_wp2_with fail
      go_loopg [6, 27] i (fun gk s6 s27 wr => ∃ j : Nat, s27 = .int .i64 (j : Int) ∧ j + gk = i ∧ Hid (Kd.R Kd.string 9 wr w.heap.size (fun _ => True) s6 ((catL (rows.take j)).map B)) ∧ Hid (Below w.heap.size w wr))
      case atStart => exact ⟨0, rfl, Nat.zero_add _, hO0, hB0⟩
      case round =>
        obtain ⟨j, rfl, hjk, hO, hB⟩ := hrel
        cases gk with
        | zero =>
          obtain rfl : i = j := by omega
          have hlt2 : decide ((i : Int) < (i : Int)) = false := by simp
          go_wp2_with fail
          go_ret
          have hfin := hO.out
          rw [List.take_of_length_le (by rw [hNH.out]; omega)] at hfin
          obtain ⟨_, inner, hown, hreps⟩ := hfin
          have hin := reps_str2 (fun _ _ h => h) _ _ hreps
          refine ⟨u6, rfl, ?_, hB.out⟩
          rw [hin, List.length_map, List.map_map] at hown
          exact hown
        | succ gk =>
          have hj : j < rows.length := by rw [hNH.out]; omega
          have hlt2 : decide ((j : Int) < (i : Int)) = true := by rw [decide_eq_true_iff]; omega
          have i1 : (0 : Int) ≤ (j : Int) := by omega
          have i2 : (j : Int) < (i : Int) := by omega
          obtain ⟨c1, c2, c3⟩ := hAH.out j hj
          have c4 := (hB.out.cell (p := ⟨R, j, none⟩) hR).trans c1
          have c5 := Lib.hid (Kd.C_below c3 hB.out)
          have hck := catL_take rows j hj
          have hle := catL_le rows (j + 1)
          rw [hck, List.length_append] at hle
          have hCK := Lib.hid hck
          generalize rows[j] = rw1 at *
          obtain ⟨A1, cp1, l1⟩ := rw1
          simp only at c1 c2 c3 c4 c5 hle hCK
          have hbd : (((catL (rows.take j)).map B).length + l1.length) * 16 ≤ 140737488355328 := by rw [List.length_map]; omega
          clear hck c1 c3
          go_wp2_with (at_builtin; go_loud (refine Kd.R_append_row (w0 := w) Value.string ByteArray.empty (h1 := fun _ => rfl) w.heap.size rfl _ _ 23 9 (.string ⟨#[]⟩) 16 rfl Tryz.underlying23 infoStr9 rfl (by decide) u6 ((catL (rows.take j)).map B) (l1.map B) A1 l1.length cp1 (fun _ => True) rfl rfl (fun _ _ => trivial) hO.out c5.out hB.out hB.out.size hbd ?_))
          intro v1 w1 hR1 hb1 _ _
          have hO1 : Hid (Kd.R Kd.string 9 w1 w.heap.size (fun _ => True) v1 ((catL (rows.take (j + 1))).map B)) := by
            show Kd.R _ _ _ _ _ _ _
            rw [hCK.out, List.map_append]; exact hR1
          have hB1 := Lib.hid hb1
          clear hR1 hb1
          go_wp2_with fail
          go_roundg gk
          case measure => omega
          case rel => exact ⟨j + 1, by first | rfl | simp, by omega, hO1, hB1⟩
    | succ gk =>
      have hin : i < rows.length := by rw [hNH.out]; omega
      have hlt : decide ((i : Int) < (n : Int)) = true := by rw [decide_eq_true_iff]; omega
      obtain ⟨c1, c2, c3⟩ := hAH.out i hin
      have i1 : (0 : Int) ≤ (i : Int) := by omega
      have i2 : (i : Int) < (n : Int) := by omega
      have hck := catL_take rows i hin
      have hle := catL_le rows (i + 1)
      rw [hck, List.length_append, ← hm.out] at hle
      have hm2 : Hid (m + rows[i].l.length = (catL (rows.take (i + 1))).length) := by show _ = _; rw [hck, List.length_append, ← hm.out]
      generalize rows[i] = rw1 at *
      obtain ⟨A1, cp1, l1⟩ := rw1
      simp only at c1 c2 c3 hle hm2
      have hneg : decide ((m : Int) + (l1.length : Int) < 0) = false := by rw [decide_eq_false_iff_not]; omega
      clear hck c3
      go_wp2_with fail
      go_roundg gk
      case measure => omega
      case rel => exact ⟨i + 1, m + l1.length, by first | rfl | simp, by omega, by first | rfl | simp, hm2, rfl⟩
set_option maxRecDepth 100000 in
set_option maxHeartbeats 4000000 in
theorem paths_any (R cp : Nat) (rows : List NRow) (w : World) (hA : RowsAt w R rows) (hR : R < w.heap.size) (hn : rows.length ≤ 100) (ht : (catL rows).length ≤ 100000) :
    Calls Tryz.prog 18 #[.slice (some ⟨R, 0, none⟩) rows.length cp] w fun e w' => e = .returned (.bool ((catL rows).all rightL)) ∧ Below w.heap.size w w' := by
  have hC := Lib.hid (Concat_any R cp rows w hA hR hn ht)
  clear hA
  have hK := Lib.hid (fun v b W hO => contains_own v b (catL rows) W hO (by omega))
  generalize catL rows = all at *
  generalize rows.length = n at *
  go_enter Tryz.func18, Tryz.ntmps18
  go_wp2_with fail
  refine hC.out.mono ?_
  rintro e w1 ⟨v, rfl, hown, hb1⟩
  have hO1 := Lib.hid hown
  have hB1 := Lib.hid hb1
  clear hown hb1
  go_wp2_with fail
  refine (hK.out _ _ _ hO1.out).mono ?_
  rintro e w2 ⟨rfl, hb2⟩
  go_wp2_with fail
  go_ret
  exact ⟨by simp, hB1.out.trans (hb2.mono hB1.out.size)⟩
end Go.Proofs.YtapdchapjpnceaaGreatDoor.P
end
section
set_option linter.unusedSimpArgs false
set_option linter.unusedVariables false
namespace Go.Proofs.YtapdchapjpnceaaGreatDoor.Idx
open Go.RowKit Go.Lib Go.Proofs.YtapdchapjpnceaaGreatDoor.U
theorem decode_at (s : ByteArray) (pos : Nat) (h : pos < s.size) : ((s[pos]'h).toNat < 128 → Utf8.decode s pos = ((s[pos]'h).toNat, 1)) ∧ (128 ≤ (s[pos]'h).toNat → 128 ≤ (Utf8.decode s pos).1) := by
  have hg : (s.get! pos).toNat = (s[pos]'h).toNat := by
    have : s.get! pos = s[pos]'h := by
      show s.data[pos]! = s.data[pos]'h
      rw [getElem!_pos s.data pos h]
    rw [this]
  have hlt := (s[pos]'h).toNat_lt
  constructor
  · intro h1
    unfold Utf8.decode
    simp only [Nat.add_zero, hg]
    rw [if_pos h1]
  · intro h1
    unfold Utf8.decode
    simp only [Nat.add_zero, hg]
    rw [if_neg (by omega)]
    split
    · split
      · assumption
      · show 128 ≤ Utf8.runeError; decide
    · split
      · split
        · rename_i h2; simp only [Bool.and_eq_true, decide_eq_true_eq] at h2; omega
        · show 128 ≤ Utf8.runeError; decide
      · split
        · split
          · rename_i h2; simp only [Bool.and_eq_true, decide_eq_true_eq] at h2; omega
          · show 128 ≤ Utf8.runeError; decide
        · show 128 ≤ Utf8.runeError; decide
theorem idx_from (q : Nat → Bool) (hq : ∀ c, 128 ≤ c → q c = false) (r : List UInt8) : ∀ (a : List UInt8) (f : Nat), r.length ≤ f →
    Lib.idxFuncFrom (fun c => !q c) true (B (a ++ r)) f a.length = if r.all (fun b => q b.toNat) then -1 else ((a.length + (r.takeWhile (fun b => q b.toNat)).length : Nat) : Int) := by
  induction r with
  | nil =>
    intro a f hf
    cases f with
    | zero => rfl
    | succ f =>
      unfold Lib.idxFuncFrom
      rw [if_neg (by rw [size_B]; simp)]; rfl
  | cons b r ih =>
    intro a f hf
    cases f with
    | zero => simp at hf
    | succ f =>
      have hp : a.length < (B (a ++ b :: r)).size := by rw [size_B]; simp
      have hb : (B (a ++ b :: r))[a.length]'hp = b := by
        show (a ++ b :: r).toArray[a.length]'_ = b
        simp
      have hd := decode_at (B (a ++ b :: r)) a.length hp
      rw [hb] at hd
      unfold Lib.idxFuncFrom
      rw [if_pos hp]
      by_cases hqb : q b.toNat = true
      · have hlt : b.toNat < 128 := by
          refine Nat.lt_of_not_le fun h2 => ?_
          rw [hq _ h2] at hqb; cases hqb
        rw [hd.1 hlt]
        have := ih (a ++ [b]) f (by simpa using hf)
        rw [List.length_append, List.length_singleton, List.append_assoc] at this
        simp only [hqb, Bool.not_true, Bool.false_eq_true, if_false, List.all_cons, Bool.true_and, List.takeWhile_cons, if_true, List.length_cons, beq_iff_eq]
        rw [show [b] ++ r = b :: r from rfl] at this
        rw [this]
        split
        · rfl
        · congr 1; omega
      · have hqb' : q b.toNat = false := by simpa using hqb
        have hqd : q (Utf8.decode (B (a ++ b :: r)) a.length).1 = false := by
          by_cases hlt : b.toNat < 128
          · rw [hd.1 hlt]; exact hqb'
          · exact hq _ (hd.2 (by omega))
        simp only [hqd, hqb', Bool.not_false, if_true, List.all_cons, Bool.false_and, Bool.false_eq_true, if_false, List.takeWhile_cons, List.length_nil, Nat.add_zero, BEq.rfl]
theorem idx_func (q : Nat → Bool) (hq : ∀ c, 128 ≤ c → q c = false) (l : List UInt8) :
    Lib.idxFunc (fun c => !q c) true (B l) = if l.all (fun b => q b.toNat) then -1 else ((l.takeWhile (fun b => q b.toNat)).length : Int) := by
  have := idx_from q hq l [] (B l).size (by rw [size_B]; exact Nat.le_refl _)
  simp only [List.nil_append, List.length_nil, Nat.zero_add] at this
  exact this
end Go.Proofs.YtapdchapjpnceaaGreatDoor.Idx
end
section
set_option linter.unusedSimpArgs false
set_option linter.unusedVariables false
namespace Go.Proofs.YtapdchapjpnceaaGreatDoor.P
open Go.RowKit Go.Lib Go.Shelf Go.Proofs.YtapdchapjpnceaaGreatDoorW.PrintWords Go.Proofs.YtapdchapjpnceaaGreatDoorW.PrintLast Go.Proofs.YtapdchapjpnceaaGreatDoorW.PrintMore Go.Proofs.YtapdchapjpnceaaGreatDoor.U Go.Proofs.YtapdchapjpnceaaGreatDoor.Idx
def visR (c : Nat) : Bool := decide (32 ≤ c) && decide (c ≤ 126)
theorem visR_beyond (c : Nat) (h : 128 ≤ c) : visR c = false := by
  have : ¬ c ≤ 126 := by omega
  simp [visR, this]
def visB (b : UInt8) : Bool := visR b.toNat
def visL (l : List UInt8) : Bool := !l.isEmpty && l.all visB
set_option maxRecDepth 100000 in
set_option maxHeartbeats 2000000 in
theorem notvis_grows (w : World) : PredGrows Tryz.prog 46 #[] (fun c => !visR c) w := by
  intro W x hx hb
  show Calls Tryz.prog _ _ W fun e w' => e = .returned (.bool (!visR x)) ∧ Below W.heap.size W w'
  by_cases h1 : x < 32
  · have e : (!visR x) = true := by
      have : ¬ 32 ≤ x := by omega
      simp [visR, this]
    have d1 : decide ((x : Int) < 32) = true := by rw [decide_eq_true_iff]; omega
    rw [e]
    go_enter Tryz.func46, Tryz.ntmps46
    go_wp2_with fail
    go_ret
    exact ⟨rfl, Below.refl _ _⟩
  · have d1 : decide ((x : Int) < 32) = false := by rw [decide_eq_false_iff_not]; omega
    by_cases h2 : x ≤ 126
    · have e : (!visR x) = false := by
        have : 32 ≤ x := by omega
        simp [visR, this, h2]
      have d2 : decide ((126 : Int) < (x : Int)) = false := by rw [decide_eq_false_iff_not]; omega
      rw [e]
      go_enter Tryz.func46, Tryz.ntmps46
      go_wp2_with fail
      go_ret
      exact ⟨rfl, Below.refl _ _⟩
    · have e : (!visR x) = true := by simp [visR, h2]
      have d2 : decide ((126 : Int) < (x : Int)) = true := by rw [decide_eq_true_iff]; omega
      rw [e]
      go_enter Tryz.func46, Tryz.ntmps46
      go_wp2_with fail
      go_ret
      exact ⟨rfl, Below.refl _ _⟩
set_option maxRecDepth 100000 in
set_option maxHeartbeats 2000000 in
theorem print_plain_any (l : List UInt8) (w : World) :
    Calls Tryz.prog 35 #[.string (B l)] w fun e w' => e = .returned (.bool (visL l)) ∧ Below w.heap.size w w' := by
  cases l with
  | nil =>
    go_enter Tryz.func35, Tryz.ntmps35
    go_wp2_with fail
    go_ret
    exact ⟨rfl, Below.refl _ _⟩
  | cons b l =>
    have hne : ((B (b :: l)).toList != []) = true := by rw [toList_B]; rfl
    have hne2 : (B (b :: l)).toList.isEmpty = false := by rw [toList_B]; rfl
    have hC := Lib.hid (Tryz.strings_ContainsFunc_grows 46 #[] (fun args w => by kernel_rfl) (fun c => !visR c) (B (b :: l)) w (notvis_grows w))
    have hi := idx_func visR visR_beyond (b :: l)
    have hd : decide ((0 : Int) ≤ Lib.idxFunc (fun c => !visR c) true (B (b :: l))) = !visL (b :: l) := by
      rw [hi, visL]
      show _ = !(true && List.all (b :: l) (fun b => visR b.toNat))
      cases (b :: l).all (fun b => visR b.toNat) with
      | true => rfl
      | false => simp <;> omega
    rw [hd] at hC
    clear hi hd
    go_enter Tryz.func35, Tryz.ntmps35
    go_wp2_with fail
    refine hC.out.mono ?_
    rintro e w' ⟨rfl, hb⟩
    go_wp2_with fail
    go_ret
    exact ⟨by simp, hb⟩
end Go.Proofs.YtapdchapjpnceaaGreatDoor.P
end
section
set_option linter.unusedSimpArgs false
set_option linter.unusedVariables false
namespace Go.Proofs.YtapdchapjpnceaaGreatDoor.P
open Go.RowKit Go.Lib Go.Shelf Go.Proofs.YtapdchapjpnceaaGreatDoorW.PrintWords Go.Proofs.YtapdchapjpnceaaGreatDoorW.PrintLast Go.Proofs.YtapdchapjpnceaaGreatDoorW.PrintMore Go.Proofs.YtapdchapjpnceaaGreatDoor.U Go.Proofs.YtapdchapjpnceaaGreatDoor.PTh
structure Ed where
  o : List (List UInt8)
  i : List (List UInt8)
  m : List (List UInt8)
  r : List (List UInt8)
  c : List UInt8
  d : List UInt8
def rightE (e : Ed) : Bool := !e.o.isEmpty && (e.o ++ e.i ++ e.m ++ e.r).all rightL && visL e.c && (e.d.isEmpty || rightL e.d)
structure EdAt (w : World) (e : Ed) (A0 A1 A2 A3 : Option Addr) (c0 c1 c2 c3 : Nat) : Prop where
  l0 : e.o.length ≤ c0
  g0 : Kd.C Kd.string w A0 e.o.length (e.o.map B)
  l1 : e.i.length ≤ c1
  g1 : Kd.C Kd.string w A1 e.i.length (e.i.map B)
  l2 : e.m.length ≤ c2
  g2 : Kd.C Kd.string w A2 e.m.length (e.m.map B)
  l3 : e.r.length ≤ c3
  g3 : Kd.C Kd.string w A3 e.r.length (e.r.map B)
set_option maxRecDepth 100000 in
set_option maxHeartbeats 4000000 in
theorem right_any (e : Ed) (A0 A1 A2 A3 : Option Addr) (c0 c1 c2 c3 : Nat) (w : World) (hE : EdAt w e A0 A1 A2 A3 c0 c1 c2 c3) (hn : (e.o ++ e.i ++ e.m ++ e.r).length ≤ 100000) :
    Calls Tryz.prog 21 #[.agg #[.slice A0 e.o.length c0, .slice A1 e.i.length c1, .slice A2 e.m.length c2, .slice A3 e.r.length c3, .string (B e.c), .string (B e.d)]] w fun x w' => x = .returned (.bool (rightE e)) ∧ Below w.heap.size w w' := by
  have hu43 := Tryz.underlying43
  have hEH := Lib.hid hE
  clear hE
  by_cases h0 : e.o = []
  · have hr : rightE e = false := by simp [rightE, h0]
    rw [hr, h0]
    clear hr
    have hlt : decide ((0 : Int) < (0 : Int)) = false := rfl
    go_enter Tryz.func21, Tryz.ntmps21
    go_wp2_with fail
    go_ret
    exact ⟨rfl, (Below.refl _ w).alloc (Nat.le_refl _) _⟩
  · have hpos : 0 < e.o.length := List.length_pos_iff.2 h0
    have hlt : decide ((0 : Int) < (e.o.length : Int)) = true := by rw [decide_eq_true_iff]; omega
    have hre : rightE e = ((e.o ++ e.i ++ e.m ++ e.r).all rightL && visL e.c && (e.d.isEmpty || rightL e.d)) := by
      have : e.o.isEmpty = false := by cases h : e.o with | nil => exact absurd h h0 | cons _ _ => rfl
      simp [rightE, this]
    rw [hre]
    clear hre
    obtain ⟨rows, hrows⟩ : ∃ rows : List NRow, rows = [⟨A0, c0, e.o⟩, ⟨A1, c1, e.i⟩, ⟨A2, c2, e.m⟩, ⟨A3, c3, e.r⟩] := ⟨_, rfl⟩
    have hcat : catL rows = e.o ++ e.i ++ e.m ++ e.r := by rw [hrows]; simp [catL]
    have hP : ∀ (W : World) (R : Nat), Below w.heap.size w W → R < W.heap.size → W.heap[R]? = some (.cells #[.slice A0 e.o.length c0, .slice A1 e.i.length c1, .slice A2 e.m.length c2, .slice A3 e.r.length c3] 23 (0, 0)) → Calls Tryz.prog 18 #[.slice (some ⟨R, 0, none⟩) 4 4] W fun x w' => x = .returned (.bool ((e.o ++ e.i ++ e.m ++ e.r).all rightL)) ∧ Below W.heap.size W w' := by
      intro W R hW hR hh
      have := paths_any R 4 rows W (by
        have E := hEH.out
        intro i hi
        rw [hrows] at hi
        match i, hi with
        | 0, _ => rw [cell_of_heap hh]; simp only [hrows]; exact ⟨rfl, E.l0, Kd.C_below E.g0 hW⟩
        | 1, _ => rw [cell_of_heap hh]; simp only [hrows]; exact ⟨rfl, E.l1, Kd.C_below E.g1 hW⟩
        | 2, _ => rw [cell_of_heap hh]; simp only [hrows]; exact ⟨rfl, E.l2, Kd.C_below E.g2 hW⟩
        | 3, _ => rw [cell_of_heap hh]; simp only [hrows]; exact ⟨rfl, E.l3, Kd.C_below E.g3 hW⟩
        | (n + 4), h => simp at h; omega) hR (by rw [hrows]; show 4 ≤ 100; omega) (by rw [hcat]; exact hn)
      rw [hcat, hrows] at this
      exact this
    have hPH := Lib.hid hP
    have hQ := Lib.hid (fun W => print_plain_any e.c W)
    have hD := Lib.hid (fun W => path_Right.calls (B e.d) (rightL e.d) W (Right_f e.d))
    have hlens : Hid ((e.o ++ e.i ++ e.m ++ e.r).all rightL = (e.o ++ e.i ++ e.m ++ e.r).all rightL) := rfl
    generalize (e.o ++ e.i ++ e.m ++ e.r).all rightL = p at *
    generalize visL e.c = q at *
    generalize rightL e.d = dr at *
    clear hP hEH hlens hcat hrows hn
    go_enter Tryz.func21, Tryz.ntmps21
    go_wp2_with fail
    have hB0 := Lib.hid (((Below.refl w.heap.size w).alloc (Nat.le_refl _) (.cells #[.slice A0 e.o.length c0, .slice A1 e.i.length c1, .slice A2 e.m.length c2, .slice A3 e.r.length c3, .string (B e.c), .string (B e.d)] 43)).alloc (by simp) (.cells #[.slice A0 e.o.length c0, .slice A1 e.i.length c1, .slice A2 e.m.length c2, .slice A3 e.r.length c3] 23))
    have hC0 : ((w.alloc (.cells #[.slice A0 e.o.length c0, .slice A1 e.i.length c1, .slice A2 e.m.length c2, .slice A3 e.r.length c3, .string (B e.c), .string (B e.d)] 43)).alloc (.cells #[.slice A0 e.o.length c0, .slice A1 e.i.length c1, .slice A2 e.m.length c2, .slice A3 e.r.length c3] 23)).heap[w.heap.size]? = some (.cells #[.slice A0 e.o.length c0, .slice A1 e.i.length c1, .slice A2 e.m.length c2, .slice A3 e.r.length c3, .string (B e.c), .string (B e.d)] 43 (0, 0)) := (Below.heap_alloc _ _ _ (by simp)).trans (heap_alloc_new w _)
    have hS0 : w.heap.size < ((w.alloc (.cells #[.slice A0 e.o.length c0, .slice A1 e.i.length c1, .slice A2 e.m.length c2, .slice A3 e.r.length c3, .string (B e.c), .string (B e.d)] 43)).alloc (.cells #[.slice A0 e.o.length c0, .slice A1 e.i.length c1, .slice A2 e.m.length c2, .slice A3 e.r.length c3] 23)).heap.size := by simp; omega
    have hCall := Lib.hid (hPH.out _ (w.heap.size + 1) hB0.out (by simp) (by simpa using heap_alloc_new (w.alloc (.cells #[.slice A0 e.o.length c0, .slice A1 e.i.length c1, .slice A2 e.m.length c2, .slice A3 e.r.length c3, .string (B e.c), .string (B e.d)] 43)) (.cells #[.slice A0 e.o.length c0, .slice A1 e.i.length c1, .slice A2 e.m.length c2, .slice A3 e.r.length c3] 23)))
    clear hPH
    generalize (w.alloc (.cells #[.slice A0 e.o.length c0, .slice A1 e.i.length c1, .slice A2 e.m.length c2, .slice A3 e.r.length c3, .string (B e.c), .string (B e.d)] 43)).alloc (.cells #[.slice A0 e.o.length c0, .slice A1 e.i.length c1, .slice A2 e.m.length c2, .slice A3 e.r.length c3] 23) = W0 at *
    refine hCall.out.mono ?_
    rintro x w1 ⟨rfl, hb1⟩
    have hC1 := (hb1.block _ hS0).trans hC0
    have hB1 := Lib.hid (hB0.out.trans (hb1.mono hB0.out.size))
    have hS1 : w.heap.size < w1.heap.size := Nat.lt_of_lt_of_le hS0 hb1.size
    have k4 := (cell_of_heap (j := 4) hC1).trans rfl
    have k5 := (cell_of_heap (j := 5) hC1).trans rfl
    clear hb1 hC0 hB0 hS0 hCall
    cases p with
    | false =>
      go_wp2_with fail
      go_ret
      exact ⟨by simp, hB1.out⟩
    | true =>
      go_wp2_with fail
      refine (hQ.out _).mono ?_
      rintro x w2 ⟨rfl, hb2⟩
      have hC2 := (hb2.block _ hS1).trans hC1
      have hB2 := Lib.hid (hB1.out.trans (hb2.mono hB1.out.size))
      have j5 := (cell_of_heap (j := 5) hC2).trans rfl
      clear hb2 hC1 hB1
      cases q with
      | false =>
        go_wp2_with fail
        go_ret
        exact ⟨by simp, hB2.out⟩
      | true =>
        cases hd : e.d with
        | nil =>
          rw [hd] at j5
          have z1 : (B ([] : List UInt8)) = ⟨#[]⟩ := rfl
          rw [z1] at j5
          go_wp2_with fail
          go_ret
          exact ⟨by simp [hd], hB2.out⟩
        | cons b l =>
          rw [hd] at j5 hD
          have z1 : ((B (b :: l)).toList == []) = false := by rw [toList_B]; rfl
          have z2 : (B (b :: l)).toList.isEmpty = false := by rw [toList_B]; rfl
          go_wp2_with fail
          refine (hD.out _).mono ?_
          rintro x w3 ⟨rfl, hb3⟩
          go_wp2_with fail
          go_ret
          exact ⟨by simp [hd], hB2.out.trans (hb3.mono hB2.out.size)⟩
def toL (a : ByteArray) : List UInt8 := a.data.toList
theorem B_toL (a : ByteArray) : B (toL a) = a := (B_of a).symm
theorem map_B_toL (l : List ByteArray) : (l.map toL).map B = l := by
  rw [List.map_map]
  conv => rhs; rw [← List.map_id l]
  exact List.map_congr_left fun a _ => B_toL a
def edOf (x : S43) : Ed := ⟨x.f0.map toL, x.f1.map toL, x.f2.map toL, x.f3.map toL, toL x.f4, toL x.f5⟩
def rightS (x : S43) : Bool := rightE (edOf x)
def namesS (x : S43) : Nat := x.f0.length + x.f1.length + x.f2.length + x.f3.length
theorem right_S (x : S43) (A0 A1 A2 A3 : Option Addr) (c0 c1 c2 c3 : Nat) (w : World) (l0 : x.f0.length ≤ c0) (g0 : Kd.C Kd.string w A0 x.f0.length x.f0) (l1 : x.f1.length ≤ c1) (g1 : Kd.C Kd.string w A1 x.f1.length x.f1) (l2 : x.f2.length ≤ c2) (g2 : Kd.C Kd.string w A2 x.f2.length x.f2) (l3 : x.f3.length ≤ c3) (g3 : Kd.C Kd.string w A3 x.f3.length x.f3) (hn : namesS x ≤ 100000) :
    Calls Tryz.prog 21 #[.agg #[.slice A0 x.f0.length c0, .slice A1 x.f1.length c1, .slice A2 x.f2.length c2, .slice A3 x.f3.length c3, .string x.f4, .string x.f5]] w fun e w' => e = .returned (.bool (rightS x)) ∧ Below w.heap.size w w' := by
  have h := right_any (edOf x) A0 A1 A2 A3 c0 c1 c2 c3 w ⟨by simpa [edOf] using l0, by rw [edOf]; simp only [map_B_toL, List.length_map]; exact g0, by simpa [edOf] using l1, by rw [edOf]; simp only [map_B_toL, List.length_map]; exact g1, by simpa [edOf] using l2, by rw [edOf]; simp only [map_B_toL, List.length_map]; exact g2, by simpa [edOf] using l3, by rw [edOf]; simp only [map_B_toL, List.length_map]; exact g3⟩ (by simpa [edOf, namesS, Nat.add_assoc] using hn)
  simp only [edOf, List.length_map, B_toL] at h
  exact h
set_option maxRecDepth 100000 in
set_option maxHeartbeats 4000000 in
theorem edge_pred (x : S43) (A0 A1 A2 A3 : Option Addr) (c0 c1 c2 c3 : Nat) (w : World) (l0 : x.f0.length ≤ c0) (g0 : Kd.C Kd.string w A0 x.f0.length x.f0) (l1 : x.f1.length ≤ c1) (g1 : Kd.C Kd.string w A1 x.f1.length x.f1) (l2 : x.f2.length ≤ c2) (g2 : Kd.C Kd.string w A2 x.f2.length x.f2) (l3 : x.f3.length ≤ c3) (g3 : Kd.C Kd.string w A3 x.f3.length x.f3) (hn : namesS x ≤ 100000) :
    Calls Tryz.prog 20 #[.agg #[.slice A0 x.f0.length c0, .slice A1 x.f1.length c1, .slice A2 x.f2.length c2, .slice A3 x.f3.length c3, .string x.f4, .string x.f5]] w fun e w' => e = .returned (.bool (!rightS x)) ∧ Below w.heap.size w w' := by
  have hu43 := Tryz.underlying43
  have hB0 := Lib.hid ((Below.refl w.heap.size w).alloc (Nat.le_refl _) (.cells #[.slice A0 x.f0.length c0, .slice A1 x.f1.length c1, .slice A2 x.f2.length c2, .slice A3 x.f3.length c3, .string x.f4, .string x.f5] 43))
  have hR := Lib.hid (fun (W : World) (h : Below w.heap.size w W) => right_S x A0 A1 A2 A3 c0 c1 c2 c3 W l0 (Kd.C_below g0 h) l1 (Kd.C_below g1 h) l2 (Kd.C_below g2 h) l3 (Kd.C_below g3 h) hn)
  generalize rightS x = r at *
  clear l0 g0 l1 g1 l2 g2 l3 g3 hn
  go_enter Tryz.func20, Tryz.ntmps20
  go_wp2_with fail
  refine (hR.out _ hB0.out).mono ?_
  rintro e w1 ⟨rfl, hb1⟩
  have hB1 := Lib.hid (hB0.out.trans (hb1.mono hB0.out.size))
  clear hb1
  go_wp2_with fail
  go_ret
  exact ⟨rfl, hB1.out⟩
set_option maxRecDepth 100000 in
set_option maxHeartbeats 4000000 in
theorem idxE_any (A : Option Addr) (cap : Nat) (xs : List S43) (w : World) (hC : Kd.C k43 w A xs.length xs) (hn : xs.length ≤ 100000) (hx : ∀ x ∈ xs, namesS x ≤ 100000) :
    Calls Tryz.prog 34 #[.slice A xs.length cap, .func (.func 20) #[] #[]] w fun e w' =>
      ∃ k : Int, e = .returned (.int .i64 k) ∧ decide (0 ≤ k) = (!xs.all rightS) ∧ Below w.heap.size w w' := by
  have hu43 := Tryz.underlying43
  obtain ⟨N, hN⟩ : ∃ N, xs.length = N := ⟨_, rfl⟩
  have hCH := Lib.hid hC
  have hxH := Lib.hid hx
  clear hC hx
  rw [hN] at hn ⊢
  go_enter Tryz.func34, Tryz.ntmps34
  go_wp2_with fail
  go_loopg [8] N (fun gk s8 wr => ∃ i : Nat, s8 = .int .i64 (i : Int) ∧ i + gk = N ∧ Hid ((xs.take i).all rightS = true) ∧ Hid (Below w.heap.size w wr))
  case atStart => exact ⟨0, rfl, Nat.zero_add _, rfl, Below.refl _ _⟩
  case round =>
    obtain ⟨i, rfl, hik, hA, hB⟩ := hrel
    cases gk with
    | zero =>
      obtain rfl : i = N := by omega
      have hlt : decide ((i : Int) < (i : Int)) = false := by simp
      go_wp2_with fail
      go_ret
      refine ⟨_, rfl, ?_, hB.out⟩
      have := hA.out
      rw [← hN, List.take_length] at this
      rw [this]; rfl
    | succ gk =>
      have hiN : i < xs.length := by omega
      have hlt : decide ((i : Int) < (N : Int)) = true := by rw [decide_eq_true_iff]; omega
      have i1 : (0 : Int) ≤ (i : Int) := by omega
      have i2 : (i : Int) < (N : Int) := by omega
      have hCw : Kd.C k43 wr A N xs := by have := Kd.C_below hCH.out hB.out; rwa [hN] at this
      obtain ⟨ad, A0, c0, A1, c1, A2, c2, A3, c3, hA', q0, q1, q2, q3, q4, q5, l0, g0, l1, g1, l2, g2, l3, g3⟩ := at_T43 hCw (i : Int) i1 i2
      subst hA'
      have hrd : rd_T43 xs (i : Int) = xs[i] := by simp [rd_T43, List.getD_eq_getElem?_getD, List.getElem?_eq_getElem hiN]
      rw [Int.toNat_natCast] at q0 q1 q2 q3 q4 q5
      rw [hrd] at q0 q1 q2 q3 q4 q5 l0 g0 l1 g1 l2 g2 l3 g3
      have htake : Hid (xs.take (i + 1) = xs.take i ++ [xs[i]]) := List.take_succ_eq_append_getElem hiN
      have hnx := hxH.out xs[i] (List.getElem_mem hiN)
      have hmem : Hid (rightS xs[i] = false → xs.all rightS = false) := by
        intro hr
        rw [List.all_eq_false]
        exact ⟨xs[i], List.getElem_mem hiN, by simp [hr]⟩
      generalize xs[i] = x at *
      have hP := Lib.hid (edge_pred x A0 A1 A2 A3 c0 c1 c2 c3 wr l0 g0 l1 g1 l2 g2 l3 g3 hnx)
      clear l0 g0 l1 g1 l2 g2 l3 g3 hnx hCw hrd
      go_wp2_with fail
      refine hP.out.mono ?_
      rintro e w2 ⟨rfl, hb2⟩
      have hB2 := Lib.hid (hB.out.trans (hb2.mono hB.out.size))
      clear hb2 hP
      cases hr : rightS x with
      | false =>
        go_wp2_with fail
        go_ret
        refine ⟨_, rfl, ?_, hB2.out⟩
        rw [hmem.out hr]
        simp
      | true =>
        have hA2 : Hid ((xs.take (i + 1)).all rightS = true) := by
          show _ = _
          rw [htake.out, List.all_append, hA.out]; simp [hr]
        go_wp2_with fail
        go_roundg gk
        case measure => omega
        case rel => exact ⟨i + 1, by first | rfl | simp, by omega, hA2, hB2⟩
set_option maxRecDepth 100000 in
set_option maxHeartbeats 2000000 in
theorem containsE_any (A : Option Addr) (cap : Nat) (xs : List S43) (w : World) (hC : Kd.C k43 w A xs.length xs) (hn : xs.length ≤ 100000) (hx : ∀ x ∈ xs, namesS x ≤ 100000) :
    Calls Tryz.prog 19 #[.slice A xs.length cap, .func (.func 20) #[] #[]] w fun e w' =>
      e = .returned (.bool (!xs.all rightS)) ∧ Below w.heap.size w w' := by
  have hI := Lib.hid (idxE_any A cap xs w hC hn hx)
  generalize xs.all rightS = r at *
  clear hC hx
  go_enter Tryz.func19, Tryz.ntmps19
  go_wp2_with fail
  refine hI.out.mono ?_
  rintro e w1 ⟨k, rfl, hk, hb⟩
  go_wp2_with fail
  go_ret
  exact ⟨rfl, hb⟩
def rightM (edges : List S43) (defaults : List ByteArray) : Bool := decide (edges.length ≤ 200) && (defaults.map toL).all rightL && edges.all rightS
set_option maxRecDepth 100000 in
set_option maxHeartbeats 4000000 in
theorem Right_any (A0 A1 : Option Addr) (c0 c1 : Nat) (l0 : List S43) (l1 : List ByteArray) (w : World) (hr0 : Kd.C k43 w A0 l0.length l0) (hc0 : l0.length ≤ c0) (hr1 : Kd.C Kd.string w A1 l1.length l1) (hc1 : l1.length ≤ c1) (h0 : l0.length ≤ 100000) (h1 : l1.length ≤ 100000) (hx : ∀ x ∈ l0, namesS x ≤ 100000) :
    Calls Tryz.prog 8 #[.agg #[.slice A0 l0.length c0, .slice A1 l1.length c1]] w fun e w' => e = .returned (.bool (rightM l0 l1)) ∧ Below w.heap.size w w' := by
  have hu32 := Tryz.underlying32
  by_cases hle : l0.length ≤ 200
  · have hd : decide ((l0.length : Int) ≤ 200) = true := by rw [decide_eq_true_iff]; omega
    have hre : rightM l0 l1 = ((l1.map toL).all rightL && l0.all rightS) := by simp [rightM, hle]
    rw [hre]
    clear hre
    have hK := Lib.hid (fun (W : World) (h : Below w.heap.size w W) => containsE_any A0 c0 l0 W (Kd.C_below hr0 h) h0 hx)
    obtain ⟨rows, hrows⟩ : ∃ rows : List NRow, rows = [⟨A1, c1, l1.map toL⟩] := ⟨_, rfl⟩
    have hcat : catL rows = l1.map toL := by rw [hrows]; simp [catL]
    have hP : ∀ (W : World) (R : Nat), Below w.heap.size w W → R < W.heap.size → W.heap[R]? = some (.cells #[.slice A1 l1.length c1] 23 (0, 0)) → Calls Tryz.prog 18 #[.slice (some ⟨R, 0, none⟩) 1 1] W fun x w' => x = .returned (.bool ((l1.map toL).all rightL)) ∧ Below W.heap.size W w' := by
      intro W R hW hR hh
      have := paths_any R 1 rows W (by
        intro i hi
        rw [hrows] at hi
        match i, hi with
        | 0, _ => rw [cell_of_heap hh]; simp only [hrows]; exact ⟨by simp, by simpa using hc1, by simp only [List.getElem_cons_zero, map_B_toL, List.length_map]; exact Kd.C_below hr1 hW⟩
        | (n + 1), h => simp at h) hR (by rw [hrows]; show 1 ≤ 100; omega) (by rw [hcat]; simpa using h1)
      rw [hcat, hrows] at this
      exact this
    have hPH := Lib.hid hP
    generalize (l1.map toL).all rightL = p at *
    generalize l0.all rightS = q at *
    clear hP hcat hrows h0 h1 hx hr0 hc0 hr1 hc1
    have hB0 := Lib.hid (((Below.refl w.heap.size w).alloc (Nat.le_refl _) (.cells #[.slice A0 l0.length c0, .slice A1 l1.length c1] 32)).alloc (by simp) (.cells #[.slice A1 l1.length c1] 23))
    have hC0 : ((w.alloc (.cells #[.slice A0 l0.length c0, .slice A1 l1.length c1] 32)).alloc (.cells #[.slice A1 l1.length c1] 23)).heap[w.heap.size]? = some (.cells #[.slice A0 l0.length c0, .slice A1 l1.length c1] 32 (0, 0)) := (Below.heap_alloc _ _ _ (by simp)).trans (heap_alloc_new w _)
    have hS0 : w.heap.size < ((w.alloc (.cells #[.slice A0 l0.length c0, .slice A1 l1.length c1] 32)).alloc (.cells #[.slice A1 l1.length c1] 23)).heap.size := by simp; omega
    have hCall := Lib.hid (hPH.out _ (w.heap.size + 1) hB0.out (by simp) (by simpa using heap_alloc_new (w.alloc (.cells #[.slice A0 l0.length c0, .slice A1 l1.length c1] 32)) (.cells #[.slice A1 l1.length c1] 23)))
    clear hPH
    go_enter Tryz.func8, Tryz.ntmps8
    go_wp2_with fail
    generalize (w.alloc (.cells #[.slice A0 l0.length c0, .slice A1 l1.length c1] 32)).alloc (.cells #[.slice A1 l1.length c1] 23) = W0 at *
    refine hCall.out.mono ?_
    rintro x w1 ⟨rfl, hb1⟩
    have hC1 := (hb1.block _ hS0).trans hC0
    have hB1 := Lib.hid (hB0.out.trans (hb1.mono hB0.out.size))
    have k0 := (cell_of_heap (j := 0) hC1).trans rfl
    have hCall2 := Lib.hid (hK.out _ hB1.out)
    clear hb1 hC0 hB0 hS0 hCall hK hC1
    cases p with
    | false =>
      go_wp2_with fail
      go_ret
      exact ⟨by simp, hB1.out⟩
    | true =>
      go_wp2_with fail
      refine hCall2.out.mono ?_
      rintro x w2 ⟨rfl, hb2⟩
      have hB2 := Lib.hid (hB1.out.trans (hb2.mono hB1.out.size))
      clear hb2 hCall2
      go_wp2_with fail
      go_ret
      exact ⟨by simp, hB2.out⟩
  · have hd : decide ((l0.length : Int) ≤ 200) = false := by rw [decide_eq_false_iff_not]; omega
    have hre : rightM l0 l1 = false := by simp [rightM, hle]
    rw [hre]
    clear hre hr0 hr1 hx
    go_enter Tryz.func8, Tryz.ntmps8
    go_wp2_with fail
    go_ret
    exact ⟨rfl, (Below.refl _ w).alloc (Nat.le_refl _) _⟩
def print_Right.f (l0 : List S43) (l1 : List ByteArray) : Option Bool := if l0.length ≤ 100000 ∧ l1.length ≤ 100000 ∧ (∀ x ∈ l0, namesS x ≤ 100000) then some (rightM l0 l1) else none
theorem print_Right.calls (A0 : Option Addr) (c0 : Nat) (l0 : List S43) (A1 : Option Addr) (c1 : Nat) (l1 : List ByteArray) (r : Bool) (w : World) (hr0 : Kd.C k43 w A0 l0.length l0) (hc0 : l0.length ≤ c0) (hr1 : Kd.C Kd.string w A1 l1.length l1) (hc1 : l1.length ≤ c1) (h : print_Right.f l0 l1 = some r) :
    Calls Tryz.prog 8 #[.agg #[.slice A0 l0.length c0, .slice A1 l1.length c1]] w fun e w' => e = .returned (.bool r) ∧ Below w.heap.size w w' := by
  unfold print_Right.f at h
  split at h
  · rename_i hc
    obtain rfl : rightM l0 l1 = r := Option.some.inj h
    exact Right_any A0 A1 c0 c1 l0 l1 w hr0 hc0 hr1 hc1 hc.1 hc.2.1 hc.2.2
  · cases h
end Go.Proofs.YtapdchapjpnceaaGreatDoor.P
end
section
namespace Go.Proofs.YtapdchapjpnceaaGreatDoor.P
open Go.RowKit Go.Proofs.YtapdchapjpnceaaGreatDoorW.PrintWords Go.Proofs.YtapdchapjpnceaaGreatDoorW.PrintLast Go.Proofs.YtapdchapjpnceaaGreatDoorW.PrintMore
attribute [local go_sem] max2_int min2_int max_two min_two max_three min_three max_four min_four
set_option linter.unusedVariables false
set_option linter.unusedSimpArgs false
def print_row.f (a0 : ByteArray) (l1 : List ByteArray) : Option (ByteArray) := if (l1.length : Int) = 0 then (some (⟨#[]⟩ : ByteArray)) else (if a0.size + 1 ≤ 9223372036854775807 then ((strings_Join.f l1 (⟨#[32]⟩ : ByteArray)).bind fun t124 => (if (a0 ++ (⟨#[32]⟩ : ByteArray)).size + t124.size ≤ 9223372036854775807 then (some ((a0 ++ (⟨#[32]⟩ : ByteArray)) ++ t124)) else (none))) else (none))
set_option maxHeartbeats 8000000 in
set_option maxRecDepth 100000 in
theorem print_row.calls (a0 : ByteArray) (A1 : Option Addr) (c1 : Nat) (l1 : List ByteArray) (r : ByteArray) (w : World) (hr1 : Kd.C Kd.string w A1 l1.length l1) (hc1 : l1.length ≤ c1) (h : print_row.f a0 l1 = some r) :
    Calls Tryz.prog 13 #[.string a0, .slice A1 l1.length c1] w fun e w' => e = .returned (.string r) ∧ Below w.heap.size w w' := by
  have HR1 := Aside0.mk hr1
  have HC1 := Aside0.mk hc1
  clear hr1 hc1
  have HB := Aside0.mk (Below.refl w.heap.size w)
  have H : (if (l1.length : Int) = 0 then (some (⟨#[]⟩ : ByteArray)) else (if a0.size + 1 ≤ 9223372036854775807 then ((strings_Join.f l1 (⟨#[32]⟩ : ByteArray)).bind fun t124 => (if (a0 ++ (⟨#[32]⟩ : ByteArray)).size + t124.size ≤ 9223372036854775807 then (some ((a0 ++ (⟨#[32]⟩ : ByteArray)) ++ t124)) else (none))) else (none))) = some r := h
  clear h
  by_cases c3 : (l1.length : Int) = 0
  · rw [if_pos c3] at H
    have c3b0 : ((l1.length : Int) == 0) = true := beq_iff_eq.mpr c3
    have c3b1 : ((l1.length : Int) != 0) = false := bne_eq_false_iff_eq.mpr c3
    clear c3
    obtain rfl := Option.some.inj H
    go_enter Tryz.func13, Tryz.ntmps13
    go_wp2
    go_ret
    exact ⟨by first | rfl | (simp [errW_none, errW_some] <;> rfl) | (simp [*, errW_none, errW_some] <;> rfl), by repeat (first | (with_reducible first | exact HB.out | apply below_alloc | apply pw_below_drewN | apply below_drew1) | exact HB.out)⟩
  · rw [if_neg c3] at H
    have c3b0 : ((l1.length : Int) == 0) = false := beq_eq_false_iff_ne.mpr c3
    have c3b1 : ((l1.length : Int) != 0) = true := bne_iff_ne.mpr c3
    have c3b2 : ¬ (l1 = []) := fun h_ => c3 (by rw [h_]; rfl)
    by_cases c4 : a0.size + 1 ≤ 9223372036854775807
    · rw [if_pos c4] at H
      have c4b0 := eq_true c4
      have c4b1 : decide (a0.size + 1 ≤ 9223372036854775807) = true := decide_eq_true c4
      try have c4b2 : (9223372036854775807 < a0.size + 1) = False := eq_false (Nat.not_lt.2 c4)
      try have c4b7 : (9223372036854775806 < a0.size) = False := eq_false (by omega)
      replace H := Option.bind_eq_some_iff.mp H
      obtain ⟨t124, A50, H⟩ := H
      replace H : (if (a0 ++ (⟨#[32]⟩ : ByteArray)).size + t124.size ≤ 9223372036854775807 then (some ((a0 ++ (⟨#[32]⟩ : ByteArray)) ++ t124)) else (none)) = some r := H
      have A5 := Aside0.mk A50
      clear A50
      by_cases c6 : (a0 ++ (⟨#[32]⟩ : ByteArray)).size + t124.size ≤ 9223372036854775807
      · rw [if_pos c6] at H
        have c6b0 := eq_true c6
        have c6b1 : decide ((a0 ++ (⟨#[32]⟩ : ByteArray)).size + t124.size ≤ 9223372036854775807) = true := decide_eq_true c6
        try have c6b2 : (9223372036854775807 < (a0 ++ (⟨#[32]⟩ : ByteArray)).size + t124.size) = False := eq_false (Nat.not_lt.2 c6)
        try have c6b7 : (9223372036854775807 < a0.size + 1 + t124.size) = False := eq_false (by have hh_ := c6; rw [ByteArray.size_append] at hh_; exact Nat.not_lt.2 hh_)
        obtain rfl := Option.some.inj H
        go_enter Tryz.func13, Tryz.ntmps13
        go_wp2_with (first | ((with_reducible refine gate_callee (f := 28) rfl ?_); refine goesL_ (some 11) rfl rfl Tryz.func28 (by kernel_rfl) rfl #[.slice A1 l1.length c1, .string (⟨#[32]⟩ : ByteArray)] rfl (by (try simp only [List.map_toArray, List.map_cons, List.map_nil]); first | done | rfl | (simp only [List.length_drop, List.length_take]; rfl)) ?_; (with_reducible refine (strings_Join.calls _ _ l1 (⟨#[32]⟩ : ByteArray) t124 _ ?side1 ?side2 A5.out).mono ?_); (case side1 => repeat (first | exact HR1.out | (with_reducible refine Kd.C_alloc ?_ _) | (with_reducible refine Kd.C_drewN ?_ _) | (with_reducible refine Kd.C_drew ?_))); (case side2 => exact HC1.out); rintro e w7 ⟨rfl, hb⟩; refine ⟨_, rfl, ?_⟩; have n0_ := Aside0.mk (below_step (by repeat (first | (with_reducible first | exact HB.out | apply below_alloc | apply pw_below_drewN | apply below_drew1) | exact HB.out)) hb); clear HB; have HB := n0_; clear n0_; (try clear hb); (try clear hb2); (try clear hk); (try clear hi)))
        go_ret
        exact ⟨by first | rfl | (simp [errW_none, errW_some] <;> rfl) | (simp [*, errW_none, errW_some] <;> rfl), by repeat (first | (with_reducible first | exact HB.out | apply below_alloc | apply pw_below_drewN | apply below_drew1) | exact HB.out)⟩
      · rw [if_neg c6] at H
        exact absurd H (by simp)
    · rw [if_neg c4] at H
      exact absurd H (by simp)
end Go.Proofs.YtapdchapjpnceaaGreatDoor.P
end
section
set_option linter.unusedVariables false
namespace Go.Proofs.YtapdchapjpnceaaGreatDoor.Rep
theorem disable (w : World) : (callFunc 97 #[]).run Tryz.prog w = .ok (.value (.tuple #[])) w := run_call_mark0 Tryz.func97 (by kernel_rfl) (by kernel_rfl) (by kernel_rfl) .disable (by kernel_rfl) w
theorem enable (w : World) : (callFunc 99 #[]).run Tryz.prog w = .ok (.value (.tuple #[])) w := run_call_mark0 Tryz.func99 (by kernel_rfl) (by kernel_rfl) (by kernel_rfl) .enable (by kernel_rfl) w
theorem acquire (a : Addr) (w : World) : (callFunc 100 #[.pointer (some a)]).run Tryz.prog w = .ok (.value (.tuple #[])) w := run_call_marked Tryz.func100 (by kernel_rfl) (by kernel_rfl) (by kernel_rfl) .acquire (by kernel_rfl) a w
theorem releaseMerge (a : Addr) (w : World) : (callFunc 102 #[.pointer (some a)]).run Tryz.prog w = .ok (.value (.tuple #[])) w := run_call_marked Tryz.func102 (by kernel_rfl) (by kernel_rfl) (by kernel_rfl) .releaseMerge (by kernel_rfl) a w
set_option maxRecDepth 100000 in
set_option maxHeartbeats 1600000 in
theorem store_deferred (a : Addr) (x : Value) (u : FrameMode) (w : World) (hc : w.cell? a = some x) (hz : w.frozen? a = false) :
    CallsD Tryz.prog 76 #[.pointer (some a), .bool true] u w fun e u' w' => u' = u ∧ (e = .returned (.tuple #[]) ∧ w' = w.drew.setCell a (.int .u32 1)) := by
  have hc' : w.drew.cell? a = some x := by go_simp
  have hz' : w.drew.frozen? a = false := by go_simp
  have hst := run_call_store (P := Tryz.prog) Tryz.func87 (by kernel_rfl) (by kernel_rfl) (by kernel_rfl) (by kernel_rfl) (k := .u32) (y := 1) hc' hz'
  go_enter_d Tryz.func76, Tryz.ntmps76
  go_wp2
  go_region_calls
  all_goals (go_end0; exact ⟨rfl, rfl⟩)
set_option maxRecDepth 100000 in
set_option maxHeartbeats 1600000 in
theorem unlock_deferred (a : Addr) (u : FrameMode) (w : World) (hc : w.cell? a = some (.int .i32 1)) (hz : w.frozen? a = false) :
    CallsD Tryz.prog 75 #[.pointer (some a)] u w fun e u' w' => u' = u ∧ (e = .returned (.tuple #[]) ∧ w' = w.setCell a (.int .i32 0)) := by
  have hd := disable
  have he := enable
  have hr := releaseMerge
  have hadd := run_call_add (P := Tryz.prog) Tryz.func103 (by kernel_rfl) (by kernel_rfl) (by kernel_rfl) .i32 (by kernel_rfl) (y := -1) (s := 0) hc hz (by simp [go_sem]; rfl)
  have hcv := run_convert_to_unsafe (P := Tryz.prog) (src := 158) (dst := 68) Tryz.underlying158 Tryz.underlying68 (by kernel_rfl) hc
  go_enter_d Tryz.func75, Tryz.ntmps75
  go_wp2
  go_end0
  go_wp2
  go_end0
  exact ⟨rfl, rfl⟩
set_option maxRecDepth 100000 in
set_option maxHeartbeats 1600000 in
theorem lock_free (a : Addr) (w : World) (hc : w.cell? a = some (.int .i32 0)) (hz : w.frozen? a = false) :
    Calls Tryz.prog 74 #[.pointer (some a)] w fun e w' => e = .returned (.tuple #[]) ∧ w' = w.setCell a (.int .i32 1) := by
  have hd := disable
  have he := enable
  have ha := acquire
  have hcas := run_call_cas_hit (P := Tryz.prog) Tryz.func98 (by kernel_rfl) (by kernel_rfl) (by kernel_rfl) .i32 (by kernel_rfl) (y := 1) hc hz
  have hc' : (w.setCell a (.int .i32 1)).cell? a = some (.int .i32 1) := World.cell?_setCell_same w a _ hc
  have hcv := run_convert_to_unsafe (P := Tryz.prog) (src := 158) (dst := 68) Tryz.underlying158 Tryz.underlying68 (by kernel_rfl) hc'
  go_enter Tryz.func74, Tryz.ntmps74
  go_wp2
  first | go_end0 | (simp only [Exit.inBlock, Exit.then]; refine bodyPost_ret (results_none rfl _ _ _) rfl ?_) | refine bodyPost_ret (results_none rfl _ _ _) rfl ?_
  go_wp2
  go_end0
  exact ⟨rfl, rfl⟩
set_option maxRecDepth 100000 in
theorem load_zero (a : Addr) (w : World) (h0 : w.cell? a = some (.int .u32 0)) :
    Calls Tryz.prog 60 #[.pointer (some a)] w fun e w' => e = .returned (.bool false) ∧ w = w' := by
  have hl := run_call_load (P := Tryz.prog) Tryz.func73 (by kernel_rfl) (by kernel_rfl) (by kernel_rfl) .u32 (by kernel_rfl) h0
  go_enter Tryz.func60, Tryz.ntmps60
  go_wp2
  go_ret
  exact ⟨rfl, rfl⟩
def Keeps (b : Nat) (W : World) : Prop := W.cell? ⟨b, 0, none⟩ = some (.int .u32 0) ∧ W.cell? ⟨b, 1, none⟩ = some (.int .i32 1) ∧ W.frozen? ⟨b, 0, none⟩ = false ∧ W.frozen? ⟨b, 1, none⟩ = false
set_option maxRecDepth 100000 in
set_option maxHeartbeats 1600000 in
theorem slow_any (b fn : Nat) (pl : Value) (R : World → Prop) (w : World) (hfn : fn = 49)
    (h0 : w.cell? ⟨b, 0, none⟩ = some (.int .u32 0)) (h1 : w.cell? ⟨b, 1, none⟩ = some (.int .i32 0)) (f0 : w.frozen? ⟨b, 0, none⟩ = false) (f1 : w.frozen? ⟨b, 1, none⟩ = false)
    (hF : Calls Tryz.prog 49 #[pl] (w.setCell ⟨b, 1, none⟩ (.int .i32 1)) fun e W => e = .returned (.tuple #[]) ∧ R W ∧ Keeps b W) :
    Calls Tryz.prog 61 #[.pointer (some ⟨b, 0, none⟩), .func (.func 49) #[pl] #[]] w fun e w' => e = .returned (.tuple #[]) ∧
      ∃ W, R W ∧ Keeps b W ∧ w' = (W.drew.setCell ⟨b, 0, none⟩ (.int .u32 1)).setCell ⟨b, 1, none⟩ (.int .i32 0) := by
  have hnot : ∀ (x : Bool) (w : World), (Op.unary .not (.bool x)).run Tryz.prog w = .ok (.bool (!x)) w := fun _ _ => rfl
  go_enter_defers Tryz.func61, Tryz.ntmps61
  go_wp2_with (first | (go_at_call 74; refine (lock_free ⟨b, 1, none⟩ _ (by go_simp) (by go_simp)).mono ?_; rintro e w' ⟨rfl, rfl⟩) | (go_at_call 60; refine (load_zero ⟨b, 0, none⟩ _ ((World.cell?_setCell_other _ ⟨b, 1, none⟩ ⟨b, 0, none⟩ _ (by simp)).trans h0)).mono ?_; rintro e w' ⟨rfl, rfl⟩) | (go_at_call 49; refine hF.mono ?_; rintro e W ⟨rfl, hR, hK⟩))
  refine leaves_cons (f := 76) (args := #[.pointer (some ⟨b, 0, none⟩), .bool true]) (by simp) (by simp [go_sem]) ?_
  refine (store_deferred ⟨b, 0, none⟩ (.int .u32 0) .returning _ hK.1 hK.2.2.1).mono ?_
  rintro e u' w'' ⟨rfl, rfl, rfl⟩
  refine leaves_cons (f := 75) (args := #[.pointer (some ⟨b, 1, none⟩)]) (by simp [settle]) (by simp [go_sem]) ?_
  refine (unlock_deferred ⟨b, 1, none⟩ _ _ ?_ ?_).mono ?_
  · refine (World.cell?_setCell_other _ ⟨b, 0, none⟩ ⟨b, 1, none⟩ _ (by simp)).trans ?_
    rw [World.cell?_drew]; exact hK.2.1
  · simp [hK.2.2.2]
  rintro e u' w'' ⟨rfl, rfl, rfl⟩
  simp [Leaves, settle, results, Tryz.results61]
  exact ⟨W, hR, hK, rfl⟩
end Go.Proofs.YtapdchapjpnceaaGreatDoor.Rep
end
section
set_option linter.unusedVariables false
namespace Go.Proofs.YtapdchapjpnceaaGreatDoor.Rep
set_option maxRecDepth 100000 in
set_option maxHeartbeats 1600000 in
theorem do_any (b : Nat) (pl : Value) (R : World → Prop) (w : World)
    (h0 : w.cell? ⟨b, 0, none⟩ = some (.int .u32 0)) (h1 : w.cell? ⟨b, 1, none⟩ = some (.int .i32 0)) (f0 : w.frozen? ⟨b, 0, none⟩ = false) (f1 : w.frozen? ⟨b, 1, none⟩ = false)
    (hF : Calls Tryz.prog 49 #[pl] (w.setCell ⟨b, 1, none⟩ (.int .i32 1)) fun e W => e = .returned (.tuple #[]) ∧ R W ∧ Keeps b W) :
    Calls Tryz.prog 48 #[.pointer (some ⟨b, 0, none⟩), .func (.func 49) #[pl] #[]] w fun e w' => e = .returned (.tuple #[]) ∧
      ∃ W, R W ∧ Keeps b W ∧ w' = (W.drew.setCell ⟨b, 0, none⟩ (.int .u32 1)).setCell ⟨b, 1, none⟩ (.int .i32 0) := by
  have hnot : ∀ (x : Bool) (w : World), (Op.unary .not (.bool x)).run Tryz.prog w = .ok (.bool (!x)) w := fun _ _ => rfl
  go_enter Tryz.func48, Tryz.ntmps48
  go_wp2_with (first | (go_at_call 61; refine (slow_any b _ pl R w rfl h0 h1 f0 f1 hF).mono ?_; rintro e w' ⟨rfl, hW⟩) | (go_at_call 60; refine (load_zero ⟨b, 0, none⟩ _ h0).mono ?_; rintro e w' ⟨rfl, rfl⟩))
  go_end0
  exact ⟨rfl, hW⟩
end Go.Proofs.YtapdchapjpnceaaGreatDoor.Rep
end
section
set_option linter.unusedSimpArgs false
set_option linter.unusedVariables false
namespace Go.Proofs.YtapdchapjpnceaaGreatDoor.Sc
open Go.RowKit Go.Proofs.YtapdchapjpnceaaGreatDoor.U
theorem _root_.Go.RowKit.Below.next {a b c : World} (h : Below a.heap.size a b) (k : Below b.heap.size b c) : Below a.heap.size a c := h.trans (k.mono h.size)
abbrev Txt := List UInt8
def escR (c : Nat) : Bool := c == 36 || c == 32 || c == 58 || c == 124
def escB (c : UInt8) : Bool := escR c.toNat
def escL : Txt → Txt
  | [] => []
  | c :: r => if escB c = true then 36 :: c :: escL r else c :: escL r
theorem escL_app (a b : Txt) : escL (a ++ b) = escL a ++ escL b := by
  induction a with
  | nil => rfl
  | cons c a ih =>
    rw [List.cons_append, escL, escL, ih]
    split <;> rfl
theorem escL_one (c : UInt8) : escL [c] = if escB c = true then [36, c] else [c] := rfl
theorem escL_len (s : Txt) : (escL s).length = s.length + s.countP escB := by
  induction s with
  | nil => rfl
  | cons c s ih =>
    rw [escL, List.countP_cons]
    split <;> simp [ih] <;> omega
theorem escL_none (s : Txt) (h : s.countP escB = 0) : escL s = s := by
  induction s with
  | nil => rfl
  | cons c s ih =>
    rw [List.countP_cons] at h
    rw [escL]
    by_cases hc : escB c = true
    · rw [if_pos hc] at h; omega
    · rw [if_neg hc, ih (by omega)]
theorem escB_all : ∀ n : Nat, n < 256 → escR n = (n == 36 || n == 32 || n == 58 || n == 124) := by decide +kernel
theorem escB_iff (c : UInt8) : escB c = true ↔ c = 124 ∨ c = 58 ∨ c = 32 ∨ c = 36 := by
  unfold escB
  rw [escB_all _ c.toNat_lt]
  have h : ∀ d : UInt8, (c.toNat == d.toNat) = true ↔ c = d := fun d => by rw [beq_iff_eq]; exact UInt8.toNat_inj
  simp only [Bool.or_eq_true]
  rw [show (36 : Nat) = (36 : UInt8).toNat from rfl, show (32 : Nat) = (32 : UInt8).toNat from rfl, show (58 : Nat) = (58 : UInt8).toNat from rfl, show (124 : Nat) = (124 : UInt8).toNat from rfl, h, h, h, h]
  constructor
  · rintro (((h | h) | h) | h) <;> simp [h]
  · rintro (h | h | h | h) <;> simp [h]
theorem count4 (s : Txt) : s.countP escB = s.count 124 + s.count 58 + s.count 32 + s.count 36 := by
  induction s with
  | nil => rfl
  | cons c s ih =>
    rw [List.countP_cons, List.count_cons, List.count_cons, List.count_cons, List.count_cons, ih]
    have h := escB_iff c
    by_cases h1 : c = 124
    · subst h1; rw [if_pos (by decide)]; simp; omega
    · by_cases h2 : c = 58
      · subst h2; rw [if_pos (by decide)]; simp; omega
      · by_cases h3 : c = 32
        · subst h3; rw [if_pos (by decide)]; simp; omega
        · by_cases h4 : c = 36
          · subst h4; rw [if_pos (by decide)]; simp; omega
          · have : ¬ escB c = true := fun e => by rcases h.1 e with e | e | e | e <;> contradiction
            rw [if_neg this]
            simp [h1, h2, h3, h4]
end Go.Proofs.YtapdchapjpnceaaGreatDoor.Sc
end
section
set_option linter.unusedSimpArgs false
set_option linter.unusedVariables false
namespace Go.Proofs.YtapdchapjpnceaaGreatDoor.RegG
open Go
section
variable {P : Program} {ops : Array Oper} {Q : Exit → Act → World → Prop} {md : Region.Mode} {S : World → Prop} {k : Nat}
def wpAnyG (P : Program) (md : Region.Mode) (ops : Array Oper) (Q : Exit → Act → World → Prop) (S : World → Prop) (k : Nat) : Nat → Array Bool → Act → World → Prop
  | 0, listed, a, w => Region.ready md ops listed = [] ∧ Q .normal a w
  | fuel + 1, listed, a, w =>
    (Region.ready md ops listed = [] → Q .normal a w) ∧
    ∀ i ∈ Region.ready md ops listed, wpOp P ops Q i (fun a' w' => ((listed.setIfInBounds i true).getD k true = false → S w') ∧ wpAnyG P md ops Q S k fuel (listed.setIfInBounds i true) a' w') a w
def AllG (P : Program) (md : Region.Mode) (ops : Array Oper) (Q : Exit → Act → World → Prop) (S : World → Prop) (k fuel : Nat) (listed : Array Bool) (a : Act) (w : World) (rs : List Nat) : Prop :=
  ∀ i ∈ rs, wpOp P ops Q i (fun a' w' => ((listed.setIfInBounds i true).getD k true = false → S w') ∧ wpAnyG P md ops Q S k fuel (listed.setIfInBounds i true) a' w') a w
theorem AllG.nil {fuel : Nat} {listed : Array Bool} {a : Act} {w : World} : AllG P md ops Q S k fuel listed a w [] := fun _ h => by cases h
theorem AllG.cons {fuel : Nat} {listed : Array Bool} {a : Act} {w : World} {i : Nat} {o : Oper} {rs : List Nat} (ho : ops[i]? = some o)
    (h : ∀ K' : Act → World → Prop, Shut (∀ a w, S w → (S w → wpAnyG P md ops Q S k fuel (listed.setIfInBounds i true) a w) → K' a w) → if Region.wanted o (yielded ops a.tmps) = true then Oper.wp P o a w K' Q else K' (a.put o.dst undef) w)
    (hs : AllG P md ops Q S k fuel listed a w rs) : AllG P md ops Q S k fuel listed a w (i :: rs) := fun j hj => by
  rcases List.mem_cons.1 hj with rfl | hj
  · exact wpOp_step ho (fun K' hK => h K' (fun a w hS hW => hK a w ⟨fun _ => hS, hW hS⟩))
  · exact hs j hj
end
end Go.Proofs.YtapdchapjpnceaaGreatDoor.RegG
end
section
set_option linter.unusedSimpArgs false
set_option linter.unusedVariables false
namespace Go.Proofs.YtapdchapjpnceaaGreatDoor.Sc
open Go.RowKit Go.Lib Go.Shelf Go.Proofs.YtapdchapjpnceaaGreatDoorW.PrintWords Go.Proofs.YtapdchapjpnceaaGreatDoor.U Go.Proofs.YtapdchapjpnceaaGreatDoor.Idx
def olds : Txt := [124, 58, 32, 36]
def RepCell (w : World) (c : UInt8) (v : Value) : Prop :=
  if escB c = true then ∃ a cap, v = .slice (some a) 2 cap ∧ w.cell? a = some (.int .u8 36) ∧ w.cell? (a.add 1) = some (.int .u8 (c.toNat : Int)) else v = .slice none 0 0
structure RepAt (w : World) (r : Nat) : Prop where
  cell : ∀ c : UInt8, ∃ v, w.cell? ⟨r, c.toNat, none⟩ = some v ∧ RepCell w c v
  tr : ∃ a cap, w.cell? ⟨r, 256, none⟩ = some (.slice (some a) 4 cap) ∧ ∀ i, i < 4 → w.cell? (a.add i) = some (.string (B [olds.getD i 0]))
theorem RepAt.yes {w : World} {r : Nat} (h : RepAt w r) {c : UInt8} (hc : escB c = true) : ∃ a cap, w.cell? ⟨r, c.toNat, none⟩ = some (.slice (some a) 2 cap) ∧ HoldsBytes w (.slice (some a) 2 cap) [36, c] := by
  obtain ⟨v, h1, h2⟩ := h.cell c
  unfold RepCell at h2
  rw [if_pos hc] at h2
  obtain ⟨a, cap, rfl, g0, g1⟩ := h2
  refine ⟨a, cap, h1, some a, cap, rfl, fun e => (by cases e), fun a' e i x hx => ?_⟩
  cases e
  match i with
  | 0 => obtain rfl : 36 = x := by simpa using hx
         rw [show a.add 0 = a by simp [Addr.add]]; exact g0
  | 1 => obtain rfl : c = x := by simpa using hx
         exact g1
  | i + 2 => simp at hx
theorem RepAt.no {w : World} {r : Nat} (h : RepAt w r) {c : UInt8} (hc : ¬ escB c = true) : w.cell? ⟨r, c.toNat, none⟩ = some (.slice none 0 0) := by
  obtain ⟨v, h1, h2⟩ := h.cell c
  unfold RepCell at h2
  rw [if_neg hc] at h2
  rw [h1, h2]
theorem RepAt.same {w wr : World} {r : Nat} (h : RepAt w r) (e : ∀ a, wr.cell? a = w.cell? a) : RepAt wr r := by
  refine ⟨fun c => ?_, ?_⟩
  · obtain ⟨v, h1, h2⟩ := h.cell c
    refine ⟨v, (e _).trans h1, ?_⟩
    unfold RepCell at h2 ⊢
    split
    · rename_i hc
      rw [if_pos hc] at h2
      obtain ⟨a, cap, g0, g1, g2⟩ := h2
      exact ⟨a, cap, g0, (e _).trans g1, (e _).trans g2⟩
    · rename_i hc
      rw [if_neg hc] at h2
      exact h2
  · obtain ⟨a, cap, h1, h2⟩ := h.tr
    exact ⟨a, cap, (e _).trans h1, fun i hi => (e _).trans (h2 i hi)⟩
theorem byte_at (s : Txt) (i : Nat) (c : UInt8) (hi : i < s.length) (hc : s[i] = c) : ∀ h : i < (B s).size, (((B s)[i]'h).toNat : Int) = (c.toNat : Int) := by
  intro h; subst hc; rfl
theorem countP_take (s : Txt) (i : Nat) (hi : i < s.length) (c : UInt8) (hc : s[i] = c) : (s.take (i + 1)).countP escB = (s.take i).countP escB + if escB c = true then 1 else 0 := by
  rw [List.take_succ_eq_append_getElem hi, hc, List.countP_append, List.countP_cons, List.countP_nil, Nat.zero_add]
theorem infoU8 : (Tryz.prog.info? 5).map (fun i => (i.zero, i.size, i.bytes)) = some (some (.int .u8 0), 1, 1) := by kernel_rfl
theorem i64id (x : Int) (h0 : -9223372036854775808 ≤ x) (h1 : x ≤ 9223372036854775807) : IntKind.i64.wrap x = x := by rw [Go.IntKind.wrap_i64]; omega
theorem strNums (l : Txt) : strOfNums (Lib.numsL l) = B l := by
  unfold strOfNums Lib.numsL
  rw [List.map_map]
  have : ((fun n : Int => UInt8.ofNat n.toNat) ∘ fun x : UInt8 => (x.toNat : Int)) = id := by funext x; simp
  rw [this, List.map_id]
theorem cellsU8 : Tryz.prog.cellsOf 5 = 1 := by kernel_rfl
theorem sizeU8 (w : World) : (Go.sizeOf 5).run Tryz.prog w = .ok 1 w := by
  cases hq : Tryz.prog.info? 5 with
  | none => have h := infoU8; rw [hq] at h; cases h
  | some i => rw [run_sizeOf w hq, cellsU8]
theorem Buf.drew {w0 wr : World} {h N : Nat} {acc : List UInt8} (hb : Lib.Buf w0 wr h N acc) : Lib.Buf w0 wr.drew h N acc := ⟨hb.below.drew, hb.there, hb.free, hb.holds, hb.fits⟩
theorem Buf.push {w0 wr : World} {h N : Nat} {acc : List UInt8} (hb : Lib.Buf w0 wr h N acc) (hl : acc.length < N) (x : UInt8) : Lib.Buf w0 (wr.setCell ⟨h, acc.length, none⟩ (.int .u8 (x.toNat : Int))) h N (acc ++ [x]) := by
  obtain ⟨u, hu⟩ := Option.isSome_iff_exists.1 (hb.there acc.length hl)
  refine ⟨hb.below.setCell (p := ⟨h, acc.length, none⟩) (Nat.le_refl _) _, fun j hj => ?_, fun j hj => by rw [World.frozen?_setCell]; exact hb.free j hj, fun j y hy => ?_, by simp; omega⟩
  · by_cases hja : j = acc.length
    · subst hja; rw [World.cell?_setCell_same _ _ _ hu]; rfl
    · rw [World.cell?_setCell_other _ _ _ _ (by first | (simp; done) | (simp; omega))]; exact hb.there j hj
  · by_cases hja : j < acc.length
    · rw [List.getElem?_append_left hja] at hy
      rw [World.cell?_setCell_other _ _ _ _ (by first | (simp; done) | (simp; omega))]; exact hb.holds j y hy
    · have : j = acc.length := by have := (List.getElem?_eq_some_iff.1 hy).1; simp at this; omega
      subst this
      obtain rfl : x = y := by simpa using hy
      rw [World.cell?_setCell_same _ _ _ hu]
set_option maxRecDepth 100000 in
set_option maxHeartbeats 8000000 in
theorem bsr_small (r : Nat) (s : Txt) (hs : s.length < 32) (w : World) (hR : RepAt w r) :
    Calls Tryz.prog 142 #[.pointer (some ⟨r, 0, none⟩), .string (B s)] w fun e w' => e = .returned (.string (B (escL s))) ∧ Below w.heap.size w w' := by
  obtain ⟨n, hn⟩ : ∃ n, s.length = n := ⟨_, rfl⟩
  have z1 : (B s).size = n := by rw [size_B, hn]
  have hRH := Lib.hid hR
  obtain ⟨ta, tc, htr, -⟩ := hR.tr
  have t1 : decide ((32 : Int) ≤ (n : Int)) = false := by rw [decide_eq_false_iff_not]; omega
  clear hR
  go_enter Tryz.func142, Tryz.ntmps142
  go_wp2_with fail
  go_loopg [5, 6, 10] n (fun gk s5 s6 s10 wr => ∃ (i m : Nat) (b : Bool), s10 = .int .i64 (i : Int) ∧ i + gk = n ∧ s5 = .int .i64 ((n + m : Nat) : Int) ∧ s6 = .bool b ∧ Hid (m = (s.take i).countP escB) ∧ Hid (b = decide (0 < m)) ∧ m ≤ i ∧ w = wr)
  case atStart => exact ⟨0, 0, false, rfl, Nat.zero_add _, by simp, rfl, rfl, rfl, Nat.le_refl _, rfl⟩
  case round =>
    obtain ⟨i, m, b, rfl, hik, rfl, rfl, hm, hb, hmi, rfl⟩ := hrel
    cases gk with
    | zero =>
      obtain rfl : n = i := by omega
      have hlt : decide ((n : Int) < (n : Int)) = false := by simp
      have hm' : Hid (m = s.countP escB) := by have := hm.out; rwa [List.take_of_length_le (by omega)] at this
      clear hm
      have hm := hm'
      clear hm'
      have hBel : Hid (Below w.heap.size w w) := Below.refl _ _
      cases b with
      | false =>
        have hz : s.countP escB = 0 := by have := hm.out; have := hb.out; simp at this; omega
        have hes := escL_none s hz
        have hES := Lib.hid hes
        clear hes hz
        go_wp2_with fail
        go_ret
        exact ⟨by rw [hES.out]; rfl, hBel.out⟩
      | true =>
        have hN : (escL s).length = n + m := by rw [escL_len, hn, ← hm.out]
        have hmn : m ≤ n := by have := hm.out; have := List.countP_le_length (p := escB) (l := s); omega
        obtain ⟨N, hNN⟩ : ∃ N : Nat, n + m = N := ⟨_, rfl⟩
        rw [hNN] at hN
        have hc0 : ((n : Int) + (m : Int)) = (N : Int) := by omega
        have hmk : (Instr.makeSlice 40 (.int .i64 (N : Int)) (.int .i64 (N : Int))).run Tryz.prog w = .ok (.slice (some ⟨w.heap.size, 0, none⟩) N N) (w.alloc (.cells (madeCells #[.int .u8 0] N) 5)) :=
          run_make_row' (P := Tryz.prog) 40 5 (.int .u8 0) 1 Tryz.underlying40 infoU8 rfl .i64 .i64 N (by omega) (by omega) w
        have hBuf : Hid (Lib.Buf w (w.alloc (.cells (madeCells #[.int .u8 0] N) 5)) w.heap.size N []) := by
          have := Lib.Buf.start w (madeCells #[.int .u8 0] N) 5 N 0 (by rw [size_madeCells]; simp)
          exact this
        have hNH := Lib.hid hN
        clear hN hb hm
        go_wp2_with fail
        go_loopg [13, 14] n (fun gk s13 s14 wr => ∃ i : Nat, s14 = .int .i64 (i : Int) ∧ i + gk = n ∧ s13 = .int .i64 ((escL (s.take i)).length : Int) ∧ Hid (Lib.Buf w wr w.heap.size N (escL (s.take i))))
        case atStart => exact ⟨0, rfl, Nat.zero_add _, rfl, hBuf⟩
        case round =>
          obtain ⟨i, rfl, hik, rfl, hB⟩ := hrel
          clear hBuf hmk
          cases gk with
          | zero =>
            obtain rfl : i = n := by omega
            have hlt : decide ((i : Int) < (i : Int)) = false := by simp
            rw [List.take_of_length_le (show s.length ≤ i by omega)] at hB ⊢
            have hconv := run_convert_bytes_arg (P := Tryz.prog) wr 40 5 Tryz.underlying40 Tryz.underlying5 w.heap.size 0 N N (Lib.numsL (escL s)) (by rw [Lib.numsL_length, hNH.out])
              (fun j hj => by
                have hj' : j < (escL s).length := by rw [hNH.out]; exact hj
                rw [Nat.zero_add, hB.out.holds j _ (List.getElem?_eq_getElem hj')]
                simp [Lib.numsL, List.getD_eq_getElem?_getD, hj']) 9 Tryz.underlying9
            rw [show strOfNums (Lib.numsL (escL s)) = B (escL s) from strNums _] at hconv
            go_wp2_with fail
            go_ret
            exact ⟨rfl, hBel.out.next hB.out.below⟩
          | succ gk =>
            have hin : i < s.length := by omega
            have hlt : decide ((i : Int) < (n : Int)) = true := by rw [decide_eq_true_iff]; omega
            obtain ⟨c, hc⟩ : ∃ c, s[i] = c := ⟨_, rfl⟩
            have h0 := byte_at s i c hin hc
            have htk : s.take (i + 1) = s.take i ++ [c] := by rw [List.take_succ_eq_append_getElem hin, hc]
            have hfit : (escL (s.take (i + 1))).length ≤ N := by
              have h1 : escL s = escL (s.take (i + 1)) ++ escL (s.drop (i + 1)) := by rw [← escL_app, List.take_append_drop]
              have h2 := hNH.out
              rw [h1, List.length_append] at h2
              omega
            have hesc : escL (s.take (i + 1)) = escL (s.take i) ++ escL [c] := by rw [htk, escL_app]
            rw [hesc, List.length_append] at hfit
            have hES := Lib.hid hesc
            have hc256 := c.toNat_lt
            clear hesc htk
            obtain ⟨acc, hacc⟩ : ∃ acc, escL (s.take i) = acc := ⟨_, rfl⟩
            rw [hacc] at hfit hB hES ⊢
            clear hacc
            by_cases he : escB c = true
            · obtain ⟨a, cap, g0, g1⟩ := hRH.out.yes he
              rw [escL_one, if_pos he] at hfit hES
              have hne : ∀ W, (binOp .neq 40 (.slice (some a) 2 cap) (.slice none 0 0)).run Tryz.prog W = .ok (.bool true) W := fun W => Go.run_neq_slice_nil W 40 5 (some a) 2 cap Tryz.underlying40
              have g2 : wr.cell? ⟨r, c.toNat, none⟩ = some (.slice (some a) 2 cap) := Lib.Below.cellOf hB.out.below g0 (Nat.le_refl _)
              have hsl : ∀ W, (Instr.slice 40 (.slice (some ⟨w.heap.size, 0, none⟩) N N) (some (.int .i64 (acc.length : Int))) none none).run Tryz.prog W = .ok (Lib.tailV w.heap.size N acc.length) W := fun W => Lib.run_slice_tailV W 40 5 Tryz.underlying40 sizeU8 _ N acc.length (by omega)
              obtain ⟨w2, hr2, B2⟩ := Lib.copy_part (P := Tryz.prog) w wr.drew w.heap.size N acc [36, c] (.slice (some a) 2 cap) 40 3 5 Tryz.underlying40 (by kernel_rfl) (Nat.le_refl _) (Buf.drew hB.out) g1 (by simpa using hfit)
              have g3 : w2.cell? ⟨r, c.toNat, none⟩ = some (.slice (some a) 2 cap) := Lib.Below.cellOf B2.below g0 (Nat.le_refl _)
              have HB2 := Lib.hid B2
              have hb0 : (0 : Int) ≤ (c.toNat : Int) := by omega
              have hb1 : (c.toNat : Int) < 256 := by omega
              have hb2 : (acc.length : Int) ≤ (N : Int) := by omega
              have hwr : IntKind.i64.wrap ((acc.length : Int) + 2) = (acc.length : Int) + 2 := i64id ((acc.length : Int) + 2) (by omega) (by omega)
              have hb3 : (0 : Int) ≤ (acc.length : Int) := by omega
              clear B2 g0
              have hHB := Lib.hid g1
              clear g1
              go_wp2_with fail
              go_region_held3 (fun w' => w'.cell? ⟨r, c.toNat, none⟩ = some (.slice (some a) 2 cap)) (go_keep) (first | (at_builtin; refine Lib.wp_copy_run _ _ _ 40 40 rfl _ _ rfl rfl hr2 ?_) | (refine Lib.wp_copy_run _ _ _ 40 40 rfl _ _ rfl rfl hr2 ?_))
              go_wp2_with fail
              go_roundg gk
              case measure => omega
              case rel => exact ⟨i + 1, by first | rfl | simp, by omega, by rw [hES.out]; simp, by rw [hES.out]; exact HB2⟩
            · have g0 := hRH.out.no he
              rw [escL_one, if_neg he] at hfit hES
              have hne : ∀ W, (binOp .neq 40 (.slice none 0 0) (.slice none 0 0)).run Tryz.prog W = .ok (.bool false) W := fun W => Go.run_neq_slice_nil W 40 5 none 0 0 Tryz.underlying40
              have g2 : wr.cell? ⟨r, c.toNat, none⟩ = some (.slice none 0 0) := Lib.Below.cellOf hB.out.below g0 (Nat.le_refl _)
              have hfit' : acc.length < N := by have := hfit; simp at this; omega
              obtain ⟨v0, f0⟩ := Option.isSome_iff_exists.1 (hB.out.there acc.length hfit')
              have f1 := hB.out.free acc.length hfit'
              have hlt2 : decide ((acc.length : Int) < (N : Int)) = true := by rw [decide_eq_true_iff]; omega
              have HB2 := Lib.hid (Buf.push hB.out hfit' c)
              clear g0
              go_wp2_with fail
              go_roundg gk
              case measure => omega
              case rel => exact ⟨i + 1, by first | rfl | simp, by omega, by rw [hES.out]; simp, by rw [hES.out]; exact HB2⟩
    | succ gk =>
      have hin : i < s.length := by omega
      have hlt : decide ((i : Int) < (n : Int)) = true := by rw [decide_eq_true_iff]; omega
      obtain ⟨c, hc⟩ : ∃ c, s[i] = c := ⟨_, rfl⟩
      have h0 := byte_at s i c hin hc
      have hcp := countP_take s i hin c hc
      have hc256 := c.toNat_lt
      by_cases he : escB c = true
      · obtain ⟨a, cap, g0, g1⟩ := hRH.out.yes he
        have hne : ∀ W, (binOp .neq 40 (.slice (some a) 2 cap) (.slice none 0 0)).run Tryz.prog W = .ok (.bool true) W := fun W => Go.run_neq_slice_nil W 40 5 (some a) 2 cap Tryz.underlying40
        rw [if_pos he, ← hm.out] at hcp
        have hCP := Lib.hid hcp
        clear hcp g1
        go_wp2_with fail
        go_roundg gk
        case measure => omega
        case rel => exact ⟨i + 1, m + 1, true, by first | rfl | simp, by omega, by first | rfl | (simp; done) | (congr 1; omega), rfl, hCP.out.symm, (by show true = _; simp), by omega, rfl⟩
      · have g0 := hRH.out.no he
        have hne : ∀ W, (binOp .neq 40 (.slice none 0 0) (.slice none 0 0)).run Tryz.prog W = .ok (.bool false) W := fun W => Go.run_neq_slice_nil W 40 5 none 0 0 Tryz.underlying40
        rw [if_neg he, ← hm.out] at hcp
        have hCP := Lib.hid hcp
        clear hcp
        go_wp2_with fail
        go_roundg gk
        case measure => omega
        case rel => exact ⟨i + 1, m, b, by first | rfl | simp, by omega, rfl, rfl, hCP.out.symm, hb, by omega, rfl⟩
def cntTo (s : Txt) (i : Nat) : Nat := ((olds.take i).map fun c => s.count c).sum
theorem cntTo_succ (s : Txt) (i : Nat) (hi : i < 4) : cntTo s (i + 1) = cntTo s i + s.count (olds.getD i 0) := by
  rcases (show i = 0 ∨ i = 1 ∨ i = 2 ∨ i = 3 by omega) with rfl | rfl | rfl | rfl <;> simp [cntTo, olds] <;> omega
theorem cntTo_all (s : Txt) : cntTo s 4 = s.countP escB := by rw [count4]; simp [cntTo, olds]; omega
theorem cntTo_le (s : Txt) (i : Nat) (hi : i ≤ 4) : cntTo s i ≤ s.length := by
  have h1 : cntTo s 4 ≤ s.length := by rw [cntTo_all]; exact List.countP_le_length
  have h2 : ∀ j, j < 4 → cntTo s j ≤ cntTo s (j + 1) := fun j hj => by rw [cntTo_succ s j hj]; omega
  have a0 := h2 0 (by omega)
  have a1 := h2 1 (by omega)
  have a2 := h2 2 (by omega)
  have a3 := h2 3 (by omega)
  simp only [Nat.zero_add, Nat.reduceAdd] at a0 a1 a2 a3
  rcases (show i = 0 ∨ i = 1 ∨ i = 2 ∨ i = 3 ∨ i = 4 by omega) with rfl | rfl | rfl | rfl | rfl <;> omega
theorem olds_esc (i : Nat) (hi : i < 4) : escB (olds.getD i 0) = true := by
  rcases (show i = 0 ∨ i = 1 ∨ i = 2 ∨ i = 3 by omega) with rfl | rfl | rfl | rfl <;> decide
set_option maxRecDepth 100000 in
set_option maxHeartbeats 8000000 in
theorem bsr_big (r : Nat) (s : Txt) (hs : 32 ≤ s.length) (hs2 : s.length ≤ 100000000) (w : World) (hR : RepAt w r) :
    Calls Tryz.prog 142 #[.pointer (some ⟨r, 0, none⟩), .string (B s)] w fun e w' => e = .returned (.string (B (escL s))) ∧ Below w.heap.size w w' := by
  obtain ⟨n, hn⟩ : ∃ n, s.length = n := ⟨_, rfl⟩
  have z1 : (B s).size = n := by rw [size_B, hn]
  have hRH := Lib.hid hR
  obtain ⟨ta, tc, htr, hcell⟩ := hR.tr
  have hTC := Lib.hid hcell
  have t1 : decide ((32 : Int) ≤ (n : Int)) = true := by rw [decide_eq_true_iff]; omega
  clear hR hcell
  go_enter Tryz.func142, Tryz.ntmps142
  go_wp2_with fail
  go_loopg [5, 6, 32] 4 (fun gk s5 s6 s32 wo => ∃ (i m : Nat) (b : Bool), s32 = .int .i64 (i : Int) ∧ i + gk = 4 ∧ s5 = .int .i64 ((n + m : Nat) : Int) ∧ s6 = .bool b ∧ Hid (m = cntTo s i) ∧ Hid (b = decide (0 < m)) ∧ m ≤ n ∧ Hid (∀ a, wo.cell? a = w.cell? a) ∧ Hid (Below w.heap.size w wo))
  case atStart => exact ⟨0, 0, false, rfl, rfl, by simp, rfl, rfl, rfl, Nat.zero_le _, fun _ => rfl, Below.refl _ _⟩
  case round =>
    obtain ⟨wo, hwo⟩ : ∃ x, x = wr := ⟨_, rfl⟩
    subst hwo
    obtain ⟨i, m, b, rfl, hik, rfl, rfl, hm, hb, hmi, hE, hBel⟩ := hrel
    have hRW := Lib.hid (hRH.out.same hE.out)
    clear hRH
    have hRH := hRW
    clear hRW
    cases gk with
    | zero =>
      obtain rfl : i = 4 := by omega
      have hm' : Hid (m = s.countP escB) := by have := hm.out; rwa [cntTo_all] at this
      clear hm
      have hm := hm'
      clear hm'
      cases b with
      | false =>
        have hz : s.countP escB = 0 := by have := hm.out; have := hb.out; simp at this; omega
        have hes := escL_none s hz
        have hES := Lib.hid hes
        clear hes hz
        go_wp2_with fail
        go_ret
        exact ⟨by rw [hES.out]; rfl, hBel.out⟩
      | true =>
        have hN : (escL s).length = n + m := by rw [escL_len, hn, ← hm.out]
        have hmn : m ≤ n := by have := hm.out; have := List.countP_le_length (p := escB) (l := s); omega
        obtain ⟨N, hNN⟩ : ∃ N : Nat, n + m = N := ⟨_, rfl⟩
        rw [hNN] at hN
        have hc0 : ((n : Int) + (m : Int)) = (N : Int) := by omega
        have hmk : (Instr.makeSlice 40 (.int .i64 (N : Int)) (.int .i64 (N : Int))).run Tryz.prog wo = .ok (.slice (some ⟨wo.heap.size, 0, none⟩) N N) (wo.alloc (.cells (madeCells #[.int .u8 0] N) 5)) :=
          run_make_row' (P := Tryz.prog) 40 5 (.int .u8 0) 1 Tryz.underlying40 infoU8 rfl .i64 .i64 N (by omega) (by omega) wo
        have hBuf : Hid (Lib.Buf wo (wo.alloc (.cells (madeCells #[.int .u8 0] N) 5)) wo.heap.size N []) := by
          have := Lib.Buf.start wo (madeCells #[.int .u8 0] N) 5 N 0 (by rw [size_madeCells]; simp)
          exact this
        have hNH := Lib.hid hN
        clear hN hb hm
        go_wp2_with fail
        go_loopg [13, 14] n (fun gk s13 s14 wr => ∃ i : Nat, s14 = .int .i64 (i : Int) ∧ i + gk = n ∧ s13 = .int .i64 ((escL (s.take i)).length : Int) ∧ Hid (Lib.Buf wo wr wo.heap.size N (escL (s.take i))))
        case atStart => exact ⟨0, rfl, Nat.zero_add _, rfl, hBuf⟩
        case round =>
          obtain ⟨i, rfl, hik, rfl, hB⟩ := hrel
          clear hBuf hmk
          cases gk with
          | zero =>
            obtain rfl : i = n := by omega
            have hlt : decide ((i : Int) < (i : Int)) = false := by simp
            rw [List.take_of_length_le (show s.length ≤ i by omega)] at hB ⊢
            have hconv := run_convert_bytes_arg (P := Tryz.prog) wr 40 5 Tryz.underlying40 Tryz.underlying5 wo.heap.size 0 N N (Lib.numsL (escL s)) (by rw [Lib.numsL_length, hNH.out])
              (fun j hj => by
                have hj' : j < (escL s).length := by rw [hNH.out]; exact hj
                rw [Nat.zero_add, hB.out.holds j _ (List.getElem?_eq_getElem hj')]
                simp [Lib.numsL, List.getD_eq_getElem?_getD, hj']) 9 Tryz.underlying9
            rw [show strOfNums (Lib.numsL (escL s)) = B (escL s) from strNums _] at hconv
            go_wp2_with fail
            go_ret
            exact ⟨rfl, hBel.out.next hB.out.below⟩
          | succ gk =>
            have hin : i < s.length := by omega
            have hlt : decide ((i : Int) < (n : Int)) = true := by rw [decide_eq_true_iff]; omega
            obtain ⟨c, hc⟩ : ∃ c, s[i] = c := ⟨_, rfl⟩
            have h0 := byte_at s i c hin hc
            have htk : s.take (i + 1) = s.take i ++ [c] := by rw [List.take_succ_eq_append_getElem hin, hc]
            have hfit : (escL (s.take (i + 1))).length ≤ N := by
              have h1 : escL s = escL (s.take (i + 1)) ++ escL (s.drop (i + 1)) := by rw [← escL_app, List.take_append_drop]
              have h2 := hNH.out
              rw [h1, List.length_append] at h2
              omega
            have hesc : escL (s.take (i + 1)) = escL (s.take i) ++ escL [c] := by rw [htk, escL_app]
            rw [hesc, List.length_append] at hfit
            have hES := Lib.hid hesc
            have hc256 := c.toNat_lt
            clear hesc htk
            obtain ⟨acc, hacc⟩ : ∃ acc, escL (s.take i) = acc := ⟨_, rfl⟩
            rw [hacc] at hfit hB hES ⊢
            clear hacc
            by_cases he : escB c = true
            · obtain ⟨a, cap, g0, g1⟩ := hRH.out.yes he
              rw [escL_one, if_pos he] at hfit hES
              have hne : ∀ W, (binOp .neq 40 (.slice (some a) 2 cap) (.slice none 0 0)).run Tryz.prog W = .ok (.bool true) W := fun W => Go.run_neq_slice_nil W 40 5 (some a) 2 cap Tryz.underlying40
              have g2 : wr.cell? ⟨r, c.toNat, none⟩ = some (.slice (some a) 2 cap) := Lib.Below.cellOf hB.out.below g0 (Nat.le_refl _)
              have hsl : ∀ W, (Instr.slice 40 (.slice (some ⟨wo.heap.size, 0, none⟩) N N) (some (.int .i64 (acc.length : Int))) none none).run Tryz.prog W = .ok (Lib.tailV wo.heap.size N acc.length) W := fun W => Lib.run_slice_tailV W 40 5 Tryz.underlying40 sizeU8 _ N acc.length (by omega)
              obtain ⟨w2, hr2, B2⟩ := Lib.copy_part (P := Tryz.prog) wo wr.drew wo.heap.size N acc [36, c] (.slice (some a) 2 cap) 40 3 5 Tryz.underlying40 (by kernel_rfl) (Nat.le_refl _) (Buf.drew hB.out) g1 (by simpa using hfit)
              have g3 : w2.cell? ⟨r, c.toNat, none⟩ = some (.slice (some a) 2 cap) := Lib.Below.cellOf B2.below g0 (Nat.le_refl _)
              have HB2 := Lib.hid B2
              have hb0 : (0 : Int) ≤ (c.toNat : Int) := by omega
              have hb1 : (c.toNat : Int) < 256 := by omega
              have hb2 : (acc.length : Int) ≤ (N : Int) := by omega
              have hwr : IntKind.i64.wrap ((acc.length : Int) + 2) = (acc.length : Int) + 2 := i64id ((acc.length : Int) + 2) (by omega) (by omega)
              have hb3 : (0 : Int) ≤ (acc.length : Int) := by omega
              clear B2 g0
              have hHB := Lib.hid g1
              clear g1
              go_wp2_with fail
              go_region_held3 (fun wo' => wo'.cell? ⟨r, c.toNat, none⟩ = some (.slice (some a) 2 cap)) (go_keep) (first | (at_builtin; refine Lib.wp_copy_run _ _ _ 40 40 rfl _ _ rfl rfl hr2 ?_) | (refine Lib.wp_copy_run _ _ _ 40 40 rfl _ _ rfl rfl hr2 ?_))
              go_wp2_with fail
              go_roundg gk
              case measure => omega
              case rel => exact ⟨i + 1, by first | rfl | simp, by omega, by rw [hES.out]; simp, by rw [hES.out]; exact HB2⟩
            · have g0 := hRH.out.no he
              rw [escL_one, if_neg he] at hfit hES
              have hne : ∀ W, (binOp .neq 40 (.slice none 0 0) (.slice none 0 0)).run Tryz.prog W = .ok (.bool false) W := fun W => Go.run_neq_slice_nil W 40 5 none 0 0 Tryz.underlying40
              have g2 : wr.cell? ⟨r, c.toNat, none⟩ = some (.slice none 0 0) := Lib.Below.cellOf hB.out.below g0 (Nat.le_refl _)
              have hfit' : acc.length < N := by have := hfit; simp at this; omega
              obtain ⟨v0, f0⟩ := Option.isSome_iff_exists.1 (hB.out.there acc.length hfit')
              have f1 := hB.out.free acc.length hfit'
              have hlt2 : decide ((acc.length : Int) < (N : Int)) = true := by rw [decide_eq_true_iff]; omega
              have HB2 := Lib.hid (Buf.push hB.out hfit' c)
              clear g0
              go_wp2_with fail
              go_roundg gk
              case measure => omega
              case rel => exact ⟨i + 1, by first | rfl | simp, by omega, by rw [hES.out]; simp, by rw [hES.out]; exact HB2⟩
    | succ gk =>
      have hi4 : i < 4 := by omega
      have hlt : decide ((i : Int) < 4) = true := by rw [decide_eq_true_iff]; omega
      have hi0 : (0 : Int) ≤ (i : Int) := by omega
      have hi1 : (i : Int) < 4 := by omega
      obtain ⟨c, hc⟩ : ∃ c, olds.getD i 0 = c := ⟨_, rfl⟩
      have he := olds_esc i hi4
      have hcell := (hE.out _).trans (hTC.out i hi4)
      have hcn := cntTo_succ s i hi4
      have hle := cntTo_le s (i + 1) hi4
      rw [hc] at he hcell hcn
      rw [hcn, ← hm.out, hn] at hle
      rw [← hm.out] at hcn
      have hCN := Lib.hid hcn
      have hCt := Lib.hid (fun W => Tryz.strings_Count_one (B s) c W)
      have ecb : Lib.countByte (B s).data.toList c = s.count c := rfl
      rw [ecb] at hCt
      have hbc : (⟨#[c]⟩ : ByteArray) = B [c] := rfl
      rw [hbc] at hCt
      obtain ⟨q, hq⟩ : ∃ q, s.count c = q := ⟨_, rfl⟩
      rw [hq] at hCt hCN hle
      obtain ⟨a, cap, g0, g1⟩ := hRH.out.yes he
      have hc256 := c.toNat_lt
      have hb0 : (0 : Int) ≤ (c.toNat : Int) := by omega
      have hb1 : (c.toNat : Int) < 256 := by omega
      have h0 : ∀ h : 0 < (B [c]).size, (((B [c])[0]'h).toNat : Int) = (c.toNat : Int) := fun h => rfl
      have hsz1 : (B [c]).size = 1 := rfl
      have htr2 := (hE.out _).trans htr
      clear hcn ecb hbc hc he hq g1
      go_wp2_with fail
      refine (hCt.out _).mono ?_
      rintro e w1 ⟨rfl, rfl⟩
      cases q with
      | zero =>
        go_wp2_with fail
        go_roundg gk
        case measure => omega
        case rel => exact ⟨i + 1, m, b, by first | rfl | simp, by omega, rfl, rfl, hCN.out.symm, hb, by omega, hE, hBel⟩
      | succ q =>
        have hq0 : ((((q + 1 : Nat) : Int)) == 0) = false := by rw [beq_eq_false_iff_ne]; omega
        have hq1 : ((((q + 1 : Nat) : Int)) != 0) = true := by rw [bne_iff_ne]; omega
        have hw0 : IntKind.i64.wrap 1 = 1 := i64id 1 (by decide) (by decide)
        have hw1 : IntKind.i64.wrap ((q : Int) + 1) = (q : Int) + 1 := i64id ((q : Int) + 1) (by omega) (by omega)
        have hw2 : IntKind.i64.wrap ((n : Int) + (m : Int) + ((q : Int) + 1)) = (n : Int) + (m : Int) + ((q : Int) + 1) := i64id ((n : Int) + (m : Int) + ((q : Int) + 1)) (by omega) (by omega)
        go_wp2_with fail
        go_region_held3 (fun w' => w'.cell? ⟨r, c.toNat, none⟩ = some (.slice (some a) 2 cap)) (go_keep) (fail)
        go_wp2_with fail
        go_roundg gk
        case measure => omega
        case rel => exact ⟨i + 1, m + (q + 1), true, by first | rfl | simp, by omega, by first | rfl | (simp; done) | (congr 1; omega) | (congr 1; push_cast; omega), rfl, hCN.out.symm, (by show true = _; symm; rw [decide_eq_true_iff]; omega), by omega, hE, hBel.out.drew⟩
end Go.Proofs.YtapdchapjpnceaaGreatDoor.Sc
end
section
set_option linter.unusedSimpArgs false
set_option linter.unusedVariables false
namespace Go.Proofs.YtapdchapjpnceaaGreatDoor.Rep
open Go.RowKit Go.Lib Go.Shelf Go.Proofs.YtapdchapjpnceaaGreatDoorW.PrintWords Go.Proofs.YtapdchapjpnceaaGreatDoor.U
abbrev Txt := List UInt8
def pairs : List Txt := [[36], [36, 36], [32], [36, 32], [58], [36, 58], [124], [36, 124]]
theorem infoStr : (Tryz.prog.info? 9).map (fun i => (i.zero, i.size, i.bytes)) = some (some (.string ⟨#[]⟩), 1, 16) := by kernel_rfl
def RowAt (w : World) (g : Nat) : Prop := ∃ cur, w.heap[g]? = some (.cells cur 9 (0, 0)) ∧ cur.toList.take 8 = pairs.map fun t => Value.string (B t)
theorem RowAt.same {w w' : World} {g : Nat} (h : RowAt w g) (e : w'.heap[g]? = w.heap[g]?) : RowAt w' g := by
  obtain ⟨cur, h1, h2⟩ := h
  exact ⟨cur, e.trans h1, h2⟩
theorem RowAt.lt {w : World} {g : Nat} (h : RowAt w g) : g < w.heap.size := by
  obtain ⟨cur, h1, h2⟩ := h
  exact (Array.getElem?_eq_some_iff.1 h1).1
theorem RowAt.cell {w : World} {g : Nat} (h : RowAt w g) (i : Nat) (hi : i < 8) : w.cell? ⟨g, i, none⟩ = some (.string (B (pairs.getD i []))) := by
  obtain ⟨cur, h1, h2⟩ := h
  rw [cell_of_heap h1]
  have h3 : (cur.toList.take 8)[i]? = some (.string (B (pairs.getD i []))) := by
    rw [h2, List.getElem?_map, List.getD_eq_getElem?_getD, List.getElem?_eq_getElem (show i < pairs.length from hi)]; rfl
  rw [List.getElem?_take_of_lt hi] at h3
  simpa using h3
theorem reps_str {R : ByteArray → List Value → Prop} (hR : ∀ x c, R x c → c = [Value.string x]) : ∀ (ps : List ByteArray) (cs : List Value), Reps R 1 ps cs → cs = ps.map Value.string := by
  intro ps cs h
  refine List.ext_getElem? fun j => ?_
  have hl := h.1
  rw [Nat.mul_one] at hl
  by_cases hj : j < ps.length
  · have h1 := hR _ _ (h.2 j _ (List.getElem?_eq_getElem hj))
    rw [Nat.mul_one] at h1
    have h2 : ((cs.drop j).take 1)[0]? = some (.string ps[j]) := by rw [h1]; rfl
    rw [List.getElem?_take_of_lt (by omega), List.getElem?_drop, Nat.add_zero] at h2
    rw [h2, List.getElem?_map, List.getElem?_eq_getElem hj]; rfl
  · rw [List.getElem?_eq_none (by omega), List.getElem?_eq_none (by simp; omega)]
structure Fresh (w : World) (b g q n : Nat) : Prop where
  blk : w.heap[b]? = some (.cells #[.int .u32 0, .int .i32 n, .int .u32 0, .nilIface, .slice (some ⟨g, 0, none⟩) 8 q] 95 (0, 0))
  row : RowAt w g
  ne : g ≠ b
def NewPost (w : World) (e : Ending) (w' : World) : Prop := ∃ b g q, e = .returned (.pointer (some ⟨b, 0, none⟩)) ∧ w.heap.size ≤ b ∧ Fresh w' b g q 0 ∧ Below w.heap.size w w'
set_option maxRecDepth 100000 in
set_option maxHeartbeats 4000000 in
theorem NewReplacer_any (A : Option Addr) (c : Nat) (w : World) (hC : Kd.C Kd.string w A 8 (pairs.map B)) :
    Calls Tryz.prog 38 #[.slice A 8 c] w (NewPost w) := by
  have hCH := Lib.hid hC
  clear hC
  go_enter Tryz.func38, Tryz.ntmps38
  go_wp2_with (at_builtin; refine Kd.R_append_row (w0 := w) Value.string ByteArray.empty (h1 := fun _ => rfl) w.heap.size rfl _ _ 23 9 (.string ⟨#[]⟩) 16 rfl Tryz.underlying23 infoStr rfl (by decide) _ [] (pairs.map B) A 8 c (fun _ => True) rfl rfl (fun _ _ => trivial) (Kd.R_nil _ _ _ _ _) hCH.out (Below.refl _ w) (Nat.le_refl _) (by decide) ?_)
  intro v1 w1 hR hb1 _ _
  have hR1 := hR
  obtain ⟨_, inner, hown, hreps⟩ := hR1
  have hin := reps_str (fun _ _ h => h) _ _ hreps
  rcases hown.2 with ⟨_, h0⟩ | ⟨g, cap, cur, rfl, hg, hh, _, _, _, htk⟩
  · exact absurd h0 (by simp [pairs])
  have hrow : Hid (RowAt w1 g) := ⟨cur, hh, by
    rw [hin] at htk
    exact htk⟩
  have hB1 := Lib.hid hb1
  have hG := Lib.hid hg
  clear hR hb1 hown hreps hin hh htk hg
  go_wp2_with fail
  go_ret
  have hsz := hB1.out.size
  have hgl := hrow.out.lt
  exact ⟨w1.heap.size, g, cap, rfl, hsz, ⟨heap_alloc_new w1 _, hrow.out.same (Below.heap_alloc _ _ _ hgl), by omega⟩, hB1.out.alloc hsz _⟩
end Go.Proofs.YtapdchapjpnceaaGreatDoor.Rep
end
section
set_option linter.unusedSimpArgs false
set_option linter.unusedVariables false
namespace Go.Proofs.YtapdchapjpnceaaGreatDoor.Rep
open Go.RowKit Go.Lib Go.Shelf Go.Proofs.YtapdchapjpnceaaGreatDoorW.PrintWords Go.Proofs.YtapdchapjpnceaaGreatDoor.U Go.Proofs.YtapdchapjpnceaaGreatDoor.Sc
def BuildPost (w : World) (e : Ending) (w' : World) : Prop := ∃ r, e = .returned (.iface 135 (.pointer (some ⟨r, 0, none⟩))) ∧ w.heap.size ≤ r ∧ RepAt w' r ∧ Below w.heap.size w w'
theorem four {i : Nat} (h : i < 4) : i = 0 ∨ i = 1 ∨ i = 2 ∨ i = 3 := by omega
theorem make4 (w : World) : (Instr.makeSlice 23 (.int .i64 0) (.int .i64 4)).run Tryz.prog w = .ok (.slice (some ⟨w.heap.size, 0, none⟩) 0 4) (w.alloc (.cells (madeCells #[.string ⟨#[]⟩] 4) 9)) := by
  obtain ⟨i, hi, hzz⟩ := Option.map_eq_some_iff.1 infoStr
  simp only [Prod.mk.injEq] at hzz
  obtain ⟨hz, hs, hb⟩ := hzz
  have h := run_make (P := Tryz.prog) w 23 9 i (.string ⟨#[]⟩) Tryz.underlying23 hi hz .i64 .i64 0 4 (by decide) (by decide) (by rw [hb]; decide) (by decide)
  rw [hs] at h
  exact h
theorem zero115 : Tryz.zeroCells134 = Array.replicate 257 (.slice none 0 0) := by kernel_rfl
def RepYes (W : World) (c : UInt8) (v : Value) : Prop := ∃ x cap xs fr, v = .slice (some ⟨x, 0, none⟩) 2 cap ∧ W.heap[x]? = some (.cells xs 5 fr) ∧ xs[0]? = some (.int .u8 36) ∧ xs[1]? = some (.int .u8 (c.toNat : Int))
theorem RepYes.same {W W' : World} {c : UInt8} {v : Value} (h : RepYes W c v) (e : ∀ (x : Nat) (xs : Array Value) (fr : Nat × Nat), W.heap[x]? = some (Obj.cells xs 5 fr) → W'.heap[x]? = W.heap[x]?) : RepYes W' c v := by
  obtain ⟨x, cap, xs, fr, h1, h2, h3, h4⟩ := h
  exact ⟨x, cap, xs, fr, h1, (e x xs fr h2).trans h2, h3, h4⟩
structure BInv (w0 : World) (k : Nat) (cs : Array Value) (T : Value) (W : World) : Prop where
  bel : Below w0.heap.size w0 W
  blk : W.heap[w0.heap.size + 1]? = some (.cells cs 134 (0, 0))
  size : cs.size = 257
  tr : cs[256]? = some T
  own : W.ownsRow w0.heap.size 9 1 T k ((olds.take k).map fun c => .string (B [c]))
  yes : ∀ c : UInt8, c ∈ olds.take k → ∃ v, cs[c.toNat]? = some v ∧ RepYes W c v
  no : ∀ c : UInt8, c ∉ olds.take k → cs[c.toNat]? = some (.slice none 0 0)
theorem ne_type {W : World} {x y : Nat} {xs ys : Array Value} {t u : TypeId} {fr fr' : Nat × Nat} (h : W.heap[x]? = some (.cells xs t fr)) (h' : W.heap[y]? = some (.cells ys u fr')) (hne : t ≠ u) : x ≠ y := by
  rintro rfl
  rw [h] at h'
  injection h' with h'
  injection h' with _ h2 _
  exact hne h2
theorem first (w : World) (m4 : Array Value) (hm : m4.size = 4) :
    ∃ W cs, (storeCells ⟨w.heap.size + 1, 0, none⟩ (Tryz.zeroCells134.toList.set 256 (.slice (some ⟨w.heap.size, 0, none⟩) 0 4))).run Tryz.prog ((w.alloc (.cells m4 9)).alloc (.cells Tryz.zeroCells134 134)) = .ok () W ∧
      BInv w 0 cs (.slice (some ⟨w.heap.size, 0, none⟩) 0 4) W := by
  rw [zero115]
  obtain ⟨n, hn⟩ : ∃ n, n = 257 := ⟨_, rfl⟩
  rw [← hn]
  have h0 : ((w.alloc (.cells m4 9)).alloc (.cells (Array.replicate n (.slice none 0 0)) 134)).heap[w.heap.size + 1]? = some (.cells (Array.replicate n (.slice none 0 0)) 134 (0, 0)) := by
    have := heap_alloc_new (w.alloc (.cells m4 9)) (.cells (Array.replicate n (.slice none 0 0)) 134)
    rwa [show (w.alloc (.cells m4 9)).heap.size = w.heap.size + 1 by simp] at this
  have hr := run_storeCells_from (P := Tryz.prog) (w.heap.size + 1) 134 ((Array.replicate n (Value.slice none 0 0)).toList.set 256 (.slice (some ⟨w.heap.size, 0, none⟩) 0 4)) 0 _ _ h0 (by simp)
    (fun v hv => by
      rcases List.mem_or_eq_of_mem_set hv with h | h
      · have : v = .slice none 0 0 := by
          rw [Array.toList_replicate] at h
          exact List.eq_of_mem_replicate h
        rw [this]; rfl
      · rw [h]; rfl)
  rw [List.take_zero, List.nil_append] at hr
  refine ⟨_, _, hr, ?_, setRow_heap _ _ _ _ _ _ h0, by rw [List.size_toArray, List.length_set, Array.length_toList, Array.size_replicate, hn], ?_, ?_, fun c hc => by simp at hc, fun c _ => ?_⟩
  · exact below_setRow (((Below.refl _ w).alloc (Nat.le_refl _) _).alloc (by simp) _) (by omega) _
  · rw [List.getElem?_toArray, List.getElem?_set_self (by rw [Array.length_toList, Array.size_replicate]; omega)]
  · refine ⟨by simp, .inr ⟨w.heap.size, 4, m4, rfl, Nat.le_refl _, ?_, by decide, by decide, by rw [hm], by simp⟩⟩
    rw [setRow_other _ _ _ _ (by omega)]
    exact (Below.heap_alloc _ _ _ (by simp)).trans (heap_alloc_new w _)
  · have hc := c.toNat_lt
    rw [List.getElem?_toArray, List.getElem?_set_ne (by omega), Array.toList_replicate, List.getElem?_replicate, if_pos (by omega)]
theorem pairs_at (k : Nat) (hk : k < 4) : pairs.getD (6 - 2 * k) [] = [olds.getD k 0] ∧ pairs.getD (6 - 2 * k + 1) [] = [36, olds.getD k 0] := by
  rcases four hk with rfl | rfl | rfl | rfl <;> exact ⟨rfl, rfl⟩
theorem olds_new (k : Nat) (hk : k < 4) : olds.getD k 0 ∉ olds.take k := by
  rcases four hk with rfl | rfl | rfl | rfl <;> decide
theorem heap_set {w : World} {b : Nat} {cs : Array Value} {t : TypeId} (h : w.heap[b]? = some (.cells cs t (0, 0))) (j : Nat) (v : Value) : (w.setCell ⟨b, j, none⟩ v).heap[b]? = some (.cells (cs.setIfInBounds j v) t (0, 0)) := by
  have hlt := (Array.getElem?_eq_some_iff.1 h).1
  have h' : w.heap[b] = .cells cs t (0, 0) := by simpa [Array.getElem?_eq_getElem hlt] using h
  show (w.heap.modify b _)[b]? = _
  rw [Array.getElem?_eq_getElem (by simpa using hlt), Array.getElem_modify_self, h']
  rfl
theorem bytes_below (w : World) (e : TypeId) (s : ByteArray) : Below w.heap.size w (Lib.bytesWorld w e s) :=
  ⟨rfl, rfl, rfl, by rw [Lib.bytesWorld_size]; omega, fun k hk => Lib.bytesWorld_at_old w e s k hk⟩
theorem BInv.next {w0 : World} {k : Nat} {cs : Array Value} {T : Value} {W : World} (h : BInv w0 k cs T W) (hk : k < 4) {c : UInt8} (hc : olds.getD k 0 = c) {o : Obj} {v1 : Value} {w1 : World}
    (hown : w1.ownsRow w0.heap.size 9 1 v1 (k + 1) ((olds.take k).map (fun c => Value.string (B [c])) ++ [.string (B [c])])) (hb : Below w0.heap.size w0 w1) (hg : (W.alloc o).grownBy w1 T.ownBlock) :
    w1.heap[w0.heap.size + 1]? = some (.cells cs 134 (0, 0)) ∧
    ∀ w2 w3, w2 = w1.setCell ⟨w0.heap.size + 1, 256, none⟩ v1 → w3 = Lib.bytesWorld w2 5 (B [36, c]) →
      w3.heap[w0.heap.size + 1]? = some (.cells (cs.setIfInBounds 256 v1) 134 (0, 0)) ∧
      ∀ cap, BInv w0 (k + 1) ((cs.setIfInBounds 256 v1).setIfInBounds c.toNat (.slice (some ⟨w2.heap.size, 0, none⟩) 2 cap)) v1 (w3.setCell ⟨w0.heap.size + 1, c.toNat, none⟩ (.slice (some ⟨w2.heap.size, 0, none⟩) 2 cap)) := by
  have hlt : w0.heap.size + 1 < W.heap.size := (Array.getElem?_eq_some_iff.1 h.blk).1
  have hne : some (w0.heap.size + 1) ≠ T.ownBlock := by
    intro e
    obtain ⟨cells, hcl⟩ := own_typed h.own _ e.symm
    exact ne_type h.blk hcl (by decide) rfl
  have hW1 : w1.heap[w0.heap.size + 1]? = some (.cells cs 134 (0, 0)) :=
    (hg.block _ (by simp; omega) hne).trans ((Below.heap_alloc _ _ _ hlt).trans h.blk)
  refine ⟨hW1, ?_⟩
  intro w2 w3 e2 e3
  have hlt1 := (Array.getElem?_eq_some_iff.1 hW1).1
  have hs2 : w2.heap.size = w1.heap.size := by rw [e2]; exact World.size_setCell _ _ _
  have hW2 : w2.heap[w0.heap.size + 1]? = some (.cells (cs.setIfInBounds 256 v1) 134 (0, 0)) := by rw [e2]; exact heap_set hW1 256 v1
  have hb23 : Below w2.heap.size w2 w3 := by rw [e3]; exact bytes_below _ _ _
  have hW3 : w3.heap[w0.heap.size + 1]? = some (.cells (cs.setIfInBounds 256 v1) 134 (0, 0)) := (hb23.block _ (by omega)).trans hW2
  refine ⟨hW3, ?_⟩
  intro cap
  have hc256 := c.toNat_lt
  have htk : olds.take (k + 1) = olds.take k ++ [c] := by rcases four hk with rfl | rfl | rfl | rfl <;> (subst hc; rfl)
  have hnew : c ∉ olds.take k := by rw [← hc]; exact olds_new k hk
  have own2 : w2.ownsRow w0.heap.size 9 1 v1 (k + 1) ((olds.take (k + 1)).map fun c => .string (B [c])) := by
    rw [htk, List.map_append, e2]
    exact own_setCell hown (own_ne hown hW1 (by decide)) v1
  have own3 := pw_own_below own2 hb23
  have keep : ∀ (x : Nat) (xs : Array Value) (fr : Nat × Nat), W.heap[x]? = some (Obj.cells xs 5 fr) → (w3.setCell ⟨w0.heap.size + 1, c.toNat, none⟩ (.slice (some ⟨w2.heap.size, 0, none⟩) 2 cap)).heap[x]? = W.heap[x]? := by
    intro x xs fr hx
    have hxl := (Array.getElem?_eq_some_iff.1 hx).1
    have hx1 : x ≠ w0.heap.size + 1 := ne_type hx h.blk (by decide)
    have hxT : some x ≠ T.ownBlock := by
      intro e
      obtain ⟨cells, hcl⟩ := own_typed h.own _ e.symm
      exact ne_type hx hcl (by decide) rfl
    have hx2 : x < w2.heap.size := by
      have := hg.size
      simp at this
      omega
    rw [Below.heap_setCell _ _ _ _ hx1, hb23.block _ hx2, e2, Below.heap_setCell _ _ _ _ hx1]
    exact (hg.block _ (by simp; omega) hxT).trans (Below.heap_alloc _ _ _ hxl)
  refine ⟨?_, heap_set hW3 _ _, by simp [h.size], ?_, own_setCell own3 (own_ne own3 hW3 (by decide)) _, fun c' hc' => ?_, fun c' hc' => ?_⟩
  · have hb2 : Below w0.heap.size w0 w2 := by rw [e2]; exact hb.setCell (p := ⟨w0.heap.size + 1, 256, none⟩) (by show w0.heap.size ≤ w0.heap.size + 1; omega) v1
    exact (hb2.next hb23).setCell (p := ⟨w0.heap.size + 1, c.toNat, none⟩) (by show w0.heap.size ≤ w0.heap.size + 1; omega) _
  · rw [Array.getElem?_setIfInBounds_ne (by omega), Array.getElem?_setIfInBounds_self_of_lt (by rw [h.size]; omega)]
  · rw [htk, List.mem_append] at hc'
    by_cases hcc : c' = c
    · subst hcc
      refine ⟨_, Array.getElem?_setIfInBounds_self_of_lt (by simp [h.size]; omega), w2.heap.size, cap, Lib.bytesCells w2 5 (B [36, c']), ((Lib.bytesCells w2 5 (B [36, c'])).size, (Lib.bytesCells w2 5 (B [36, c'])).size + 1), rfl, ?_, ?_, ?_⟩
      · rw [Below.heap_setCell _ _ _ _ (show w2.heap.size ≠ w0.heap.size + 1 by omega), e3]
        exact Lib.bytesWorld_at_new w2 5 (B [36, c'])
      · unfold Lib.bytesCells; rw [Array.getElem?_append_left (by simp [B]), Array.getElem?_map]; rfl
      · unfold Lib.bytesCells; rw [Array.getElem?_append_left (by simp [B]), Array.getElem?_map]; rfl
    · have hin : c' ∈ olds.take k := hc'.resolve_right (fun h1 => hcc (by simpa using h1))
      obtain ⟨v, g1, g2⟩ := h.yes c' hin
      have hc'256 := c'.toNat_lt
      refine ⟨v, ?_, g2.same keep⟩
      rw [Array.getElem?_setIfInBounds_ne (fun e => hcc (UInt8.toNat_inj.1 e.symm)), Array.getElem?_setIfInBounds_ne (by omega)]
      exact g1
  · rw [htk, List.mem_append, not_or] at hc'
    have hcc : c' ≠ c := by simpa using hc'.2
    have hc'256 := c'.toNat_lt
    rw [Array.getElem?_setIfInBounds_ne (fun e => hcc (UInt8.toNat_inj.1 e.symm)), Array.getElem?_setIfInBounds_ne (by omega)]
    exact h.no c' hc'.1
theorem BInv.done {w0 : World} {cs : Array Value} {T : Value} {W : World} (h : BInv w0 4 cs T W) : RepAt W (w0.heap.size + 1) := by
  refine ⟨fun c => ?_, ?_⟩
  · have hmem : escB c = true ↔ c ∈ olds.take 4 := by rw [escB_iff]; simp [olds]
    by_cases he : escB c = true
    · obtain ⟨v, g1, x, cap, xs, fr, rfl, g2, g3, g4⟩ := h.yes c (hmem.1 he)
      refine ⟨_, (cell_of_heap h.blk _).trans g1, ?_⟩
      unfold RepCell
      rw [if_pos he]
      exact ⟨⟨x, 0, none⟩, cap, rfl, by simp [World.cell?, g2, g3], by simp [World.cell?, Addr.add, g2, g4]⟩
    · refine ⟨_, (cell_of_heap h.blk _).trans (h.no c (fun e => he (hmem.2 e))), ?_⟩
      unfold RepCell
      rw [if_neg he]
  · rcases h.own.2 with ⟨_, h0⟩ | ⟨x, cap, cur, hT, _, hh, _, _, _, htk⟩
    · exact absurd h0 (by decide)
    · refine ⟨⟨x, 0, none⟩, cap, by rw [cell_of_heap h.blk, h.tr, hT], fun i hi => ?_⟩
      have ha : (⟨x, 0, none⟩ : Addr).add i = ⟨x, i, none⟩ := by unfold Addr.add; by_cases hq : i = 0 <;> simp [hq]
      rw [ha, cell_of_heap hh]
      have h3 : (cur.toList.take (4 * 1))[i]? = some (.string (B [olds.getD i 0])) := by
        rw [htk]; rcases four hi with rfl | rfl | rfl | rfl <;> rfl
      rw [List.getElem?_take_of_lt (by omega)] at h3
      simpa using h3
set_option maxRecDepth 100000 in
set_option maxHeartbeats 4000000 in
theorem build_any (b g q : Nat) (w : World) (hF : Fresh w b g q 1) :
    Calls Tryz.prog 62 #[.pointer (some ⟨b, 0, none⟩)] w (BuildPost w) := by
  obtain ⟨hblk, hrow, hne⟩ := hF
  have hR := Lib.hid hrow
  have b2 : w.cell? ⟨b, 4, none⟩ = some (.slice (some ⟨g, 0, none⟩) 8 q) := by rw [cell_of_heap hblk]; rfl
  clear hrow hblk hne
  go_enter Tryz.func62, Tryz.ntmps62
  go_wp2_with fail
  go_loopg [4, 5] 4 (fun gk s4 s5 wr => ∃ i : Nat, s5 = .int .i64 ((2 * i : Nat) : Int) ∧ i + gk = 4 ∧ s4 = .bool (decide (i = 0)) ∧ w = wr)
  case atStart => exact ⟨0, rfl, rfl, rfl, rfl⟩
  case round =>
    obtain ⟨i, rfl, hik, rfl, rfl⟩ := hrel
    cases gk with
    | zero =>
      obtain rfl : i = 4 := by omega
      have hmk := make4 w
      have hm4 : (madeCells #[.string ⟨#[]⟩] 4).size = 4 := by rw [size_madeCells]
      generalize madeCells #[.string ⟨#[]⟩] 4 = m4 at hmk hm4
      obtain ⟨W2, cs2, hst, hI2⟩ := first w m4 hm4
      have HI2 := Lib.hid hI2
      clear hI2 hm4
      go_wp2_with fail
      go_loopg [12] 4 (fun gk s12 wr => ∃ (k : Nat) (cs : Array Value) (T : Value), s12 = .int .i64 (6 - 2 * (k : Int)) ∧ k + gk = 4 ∧ Hid (BInv w k cs T wr))
      case atStart => exact ⟨0, cs2, _, rfl, rfl, HI2⟩
      case round =>
        obtain ⟨k, cs, T, rfl, hk4, hI⟩ := hrel
        clear hmk hst HI2
        cases gk with
        | zero =>
          obtain rfl : k = 4 := by omega
          go_wp2_with fail
          go_ret
          exact ⟨w.heap.size + 1, rfl, by omega, hI.out.done, hI.out.bel⟩
        | succ gk =>
          have hk : k < 4 := by omega
          obtain ⟨p, hp⟩ : ∃ p, 6 - 2 * k = p := ⟨_, rfl⟩
          have hpk : (6 - 2 * (k : Int)) = (p : Int) := by omega
          have hp8 : p + 1 < 8 := by omega
          obtain ⟨e0, e1⟩ := pairs_at k hk
          obtain ⟨c, hc⟩ : ∃ c, olds.getD k 0 = c := ⟨_, rfl⟩
          rw [hp, hc] at e0 e1
          have hnew := olds_new k hk
          rw [hc] at hnew
          have hgl := hR.out.lt
          have c0 : wr.cell? ⟨g, p, none⟩ = some (.string (B [c])) := by rw [hI.out.bel.cell hgl, hR.out.cell p (by omega), e0]
          have c1 : wr.cell? ⟨g, p + 1, none⟩ = some (.string (B [36, c])) := by rw [hI.out.bel.cell hgl, hR.out.cell (p + 1) hp8, e1]
          have hc256 := c.toNat_lt
          have c2 : wr.cell? ⟨w.heap.size + 1, c.toNat, none⟩ = some (.slice none 0 0) := by rw [cell_of_heap hI.out.blk]; exact hI.out.no c hnew
          have c3 : wr.cell? ⟨w.heap.size + 1, 256, none⟩ = some T := by rw [cell_of_heap hI.out.blk]; exact hI.out.tr
          have hpi : decide ((0 : Int) ≤ (p : Int)) = true := by rw [decide_eq_true_iff]; omega
          have z0 : (B [c]).size = 1 := rfl
          have h0 : ∀ h : 0 < (B [c]).size, (((B [c])[0]'h).toNat : Int) = (c.toNat : Int) := fun h => rfl
          have heq : ∀ W, (binOp .eql 40 (.slice none 0 0) (.slice none 0 0)).run Tryz.prog W = .ok (.bool true) W := fun W => Lib.run_eql_slice_nil_nil W _ _ Tryz.underlying40
          have hce := Lib.hid hc
          clear hc e0 e1 hnew hgl hk
          have hcv : (convert 40 9 (.slice (some ⟨wr.heap.size, 0, none⟩) 1 1)).run Tryz.prog (wr.alloc (.cells #[.int .u8 (c.toNat : Int)] 5)) = .ok (.string (B [c])) (wr.alloc (.cells #[.int .u8 (c.toNat : Int)] 5)) := by
            have h := run_convert_bytes_arg (P := Tryz.prog) (wr.alloc (.cells #[.int .u8 (c.toNat : Int)] 5)) 40 5 Tryz.underlying40 Tryz.underlying5 wr.heap.size 0 1 1 (Lib.numsL [c]) rfl
              (fun i hi => by
                obtain rfl : i = 0 := by omega
                rw [cell_of_heap (heap_alloc_new wr _)]; rfl) 9 Tryz.underlying9
            rwa [strNums] at h
          have HO := (hI.out.own.alloc (.cells #[.int .u8 (c.toNat : Int)] 5))
          have HB : Below w.heap.size w (wr.alloc (.cells #[.int .u8 (c.toNat : Int)] 5)) := hI.out.bel.alloc hI.out.bel.size _
          have hbs := HB.size
          rw [hpk]
          go_wp2_with (at_builtin; refine print_append_cells (w0 := w) (W := wr.alloc (.cells #[.int .u8 (c.toNat : Int)] 5)) w.heap.size rfl _ _ 23 9 (.string ⟨#[]⟩) 1 16 rfl Tryz.underlying23 infoStr rfl (by decide) (by decide) T k _ [.string (B [c])] rfl (by rw [show (wr.alloc (.cells #[.int .u8 (c.toNat : Int)] 5)).heap.size = wr.heap.size + 1 by simp]; rfl) rfl (by intro u hu; rw [List.mem_singleton.1 hu]; rfl) HO HB hbs (by omega) ?_)
          intro v1 w1 hown hb1 hg1 _
          rw [← List.map_take] at hown
          obtain ⟨A1, cp1, rfl⟩ := own_slice hown
          obtain ⟨q1, q2⟩ := hI.out.next (show k < 4 by omega) hce.out hown hb1 hg1
          have f1 : w1.cell? ⟨w.heap.size + 1, 256, none⟩ = some T := by rw [cell_of_heap q1]; exact hI.out.tr
          have f2 : w1.frozen? ⟨w.heap.size + 1, 256, none⟩ = false := frozen_of_heap q1 256
          obtain ⟨w2, hw2⟩ : ∃ w2, w1.setCell ⟨w.heap.size + 1, 256, none⟩ (.slice A1 (k + 1) cp1) = w2 := ⟨_, rfl⟩
          obtain ⟨w3, hw3⟩ : ∃ w3, Lib.bytesWorld w2 5 (B [36, c]) = w3 := ⟨_, rfl⟩
          obtain ⟨q3, q4⟩ := q2 w2 w3 hw2.symm hw3.symm
          have hcv2 := Lib.run_convert_string_bytes (P := Tryz.prog) w2 9 40 5 (B [36, c]) Tryz.underlying9 Tryz.underlying40 Tryz.underlying5
          rw [hw3] at hcv2
          have hIn := Lib.hid (q4 (grownCap w2 (B [36, c]).size 0 5))
          have hcsz : (cs.setIfInBounds 256 (.slice A1 (k + 1) cp1)).size = 257 := by rw [Array.size_setIfInBounds]; exact hI.out.size
          obtain ⟨v3, f3⟩ : ∃ v, w3.cell? ⟨w.heap.size + 1, c.toNat, none⟩ = some v := ⟨_, by rw [cell_of_heap q3, Array.getElem?_eq_getElem (by rw [hcsz]; omega)]⟩
          have f4 : w3.frozen? ⟨w.heap.size + 1, c.toNat, none⟩ = false := frozen_of_heap q3 c.toNat
          generalize grownCap w2 (B [36, c]).size 0 5 = cap at *
          clear hown hb1 hg1 q1 q2 q3 q4 hcv HO HB hbs c0 c1 c2 c3 hw3 hcsz
          have hb0 : (0 : Int) ≤ (c.toNat : Int) := by omega
          have hb1 : (c.toNat : Int) < 256 := by omega
          go_wp2_with fail
          go_roundg gk
          case measure => omega
          case rel => exact ⟨k + 1, _, _, by congr 1; omega, by omega, hIn⟩
    | succ gk =>
      rcases four (show i < 4 by omega) with rfl | rfl | rfl | rfl
      · have c0 : w.cell? ⟨g, 0, none⟩ = some (.string (B [36])) := hR.out.cell 0 (by omega)
        have c1 : w.cell? ⟨g, 1, none⟩ = some (.string (B [36, 36])) := hR.out.cell 1 (by omega)
        have z0 : (B [36]).size = 1 := rfl
        have z1 : (B [36, 36]).size = 2 := rfl
        go_wp2_with fail
        go_roundg gk
        case measure => omega
        case rel => exact ⟨1, rfl, by omega, rfl, rfl⟩
      · have c0 : w.cell? ⟨g, 2, none⟩ = some (.string (B [32])) := hR.out.cell 2 (by omega)
        have c1 : w.cell? ⟨g, 3, none⟩ = some (.string (B [36, 32])) := hR.out.cell 3 (by omega)
        have z0 : (B [32]).size = 1 := rfl
        have z1 : (B [36, 32]).size = 2 := rfl
        go_wp2_with fail
        go_roundg gk
        case measure => omega
        case rel => exact ⟨2, rfl, by omega, rfl, rfl⟩
      · have c0 : w.cell? ⟨g, 4, none⟩ = some (.string (B [58])) := hR.out.cell 4 (by omega)
        have c1 : w.cell? ⟨g, 5, none⟩ = some (.string (B [36, 58])) := hR.out.cell 5 (by omega)
        have z0 : (B [58]).size = 1 := rfl
        have z1 : (B [36, 58]).size = 2 := rfl
        go_wp2_with fail
        go_roundg gk
        case measure => omega
        case rel => exact ⟨3, rfl, by omega, rfl, rfl⟩
      · have c0 : w.cell? ⟨g, 6, none⟩ = some (.string (B [124])) := hR.out.cell 6 (by omega)
        have c1 : w.cell? ⟨g, 7, none⟩ = some (.string (B [36, 124])) := hR.out.cell 7 (by omega)
        have z0 : (B [124]).size = 1 := rfl
        have z1 : (B [36, 124]).size = 2 := rfl
        go_wp2_with fail
        go_roundg gk
        case measure => omega
        case rel => exact ⟨4, rfl, by omega, rfl, rfl⟩
end Go.Proofs.YtapdchapjpnceaaGreatDoor.Rep
end
section
set_option linter.unusedSimpArgs false
set_option linter.unusedVariables false
namespace Go.Proofs.YtapdchapjpnceaaGreatDoor.Rep
open Go.RowKit Go.Lib Go.Shelf Go.Proofs.YtapdchapjpnceaaGreatDoorW.PrintWords Go.Proofs.YtapdchapjpnceaaGreatDoor.U Go.Proofs.YtapdchapjpnceaaGreatDoor.Sc
theorem RepAt.store {w : World} {r : Nat} (h : RepAt w r) {p : Addr} {x : Value} (hp : w.cell? p = some x) (hr : p.block ≠ r) (h1 : ∀ n, x ≠ .int .u8 n) (h2 : ∀ s, x ≠ .string s) (v : Value) : RepAt (w.setCell p v) r := by
  have k1 : ∀ (a : Addr) n, w.cell? a = some (.int .u8 n) → (w.setCell p v).cell? a = some (.int .u8 n) := fun a n ha => by
    rw [World.cell?_setCell_other _ _ _ _ (fun e => by subst e; rw [hp] at ha; exact h1 _ (Option.some.inj ha))]; exact ha
  have k2 : ∀ (a : Addr) s, w.cell? a = some (.string s) → (w.setCell p v).cell? a = some (.string s) := fun a s ha => by
    rw [World.cell?_setCell_other _ _ _ _ (fun e => by subst e; rw [hp] at ha; exact h2 _ (Option.some.inj ha))]; exact ha
  have k3 : ∀ j, (w.setCell p v).cell? ⟨r, j, none⟩ = w.cell? ⟨r, j, none⟩ := fun j => World.cell?_setCell_other _ _ _ _ (fun e => hr (by rw [e]))
  refine ⟨fun c => ?_, ?_⟩
  · obtain ⟨y, g1, g2⟩ := h.cell c
    refine ⟨y, (k3 _).trans g1, ?_⟩
    unfold RepCell at g2 ⊢
    split
    · rename_i hc
      rw [if_pos hc] at g2
      obtain ⟨a, cap, e0, e1, e2⟩ := g2
      exact ⟨a, cap, e0, k1 _ _ e1, k1 _ _ e2⟩
    · rename_i hc
      rw [if_neg hc] at g2
      exact g2
  · obtain ⟨a, cap, g1, g2⟩ := h.tr
    exact ⟨a, cap, (k3 _).trans g1, fun i hi => k2 _ _ (g2 i hi)⟩
def Built (B0 : Nat) (w0 : World) (b : Nat) (W : World) : Prop := ∃ r, W.heap[b]? = some (.cells #[.int .u32 0, .int .i32 1, .int .u32 0, .iface 135 (.pointer (some ⟨r, 0, none⟩)), .slice none 0 0] 95 (0, 0)) ∧ RepAt W r ∧ b ≠ r ∧ Below B0 w0 W
theorem blk_cell {w : World} {b : Nat} {cs : Array Value} {t : TypeId} {fr : Nat × Nat} (h : w.heap[b]? = some (.cells cs t fr)) (j : Nat) (v : Value) (hv : cs[j]? = some v) : w.cell? ⟨b, j, none⟩ = some v := by rw [cell_of_heap h]; exact hv
set_option maxRecDepth 100000 in
set_option maxHeartbeats 4000000 in
theorem buildOnce_any (B0 : Nat) (w0 : World) (b g q : Nat) (w : World) (hF : Fresh w b g q 1) (hB : Below B0 w0 w) (hb : B0 ≤ b) :
    Calls Tryz.prog 49 #[.pointer (some ⟨b, 0, none⟩)] w fun e W => e = .returned (.tuple #[]) ∧ Built B0 w0 b W ∧ Keeps b W := by
  have hBu := Lib.hid (build_any b g q w hF)
  have hlt := (Array.getElem?_eq_some_iff.1 hF.blk).1
  have hblk := Lib.hid hF.blk
  clear hF
  go_enter Tryz.func49, Tryz.ntmps49
  go_wp2_with fail
  refine hBu.out.mono ?_
  rintro e w1 ⟨r, rfl, hr, hrep, hb1⟩
  have h1 : w1.heap[b]? = some (.cells #[.int .u32 0, .int .i32 1, .int .u32 0, .nilIface, .slice (some ⟨g, 0, none⟩) 8 q] 95 (0, 0)) := (hb1.block b hlt).trans hblk.out
  have hrb : b ≠ r := by omega
  have c3 := blk_cell h1 3 _ rfl
  have z3 := frozen_of_heap h1 3
  have h2 := heap_set h1 3 (.iface 135 (.pointer (some ⟨r, 0, none⟩)))
  have r2 := RepAt.store hrep c3 hrb (fun _ => by simp) (fun _ => by simp) (.iface 135 (.pointer (some ⟨r, 0, none⟩)))
  have c4 := blk_cell h2 4 (.slice (some ⟨g, 0, none⟩) 8 q) rfl
  have z4 := frozen_of_heap h2 4
  have h3 := heap_set h2 4 (.slice none 0 0)
  have r3 := RepAt.store r2 c4 hrb (fun _ => by simp) (fun _ => by simp) (.slice none 0 0)
  have hb0 : Below B0 w0 w1 := hB.trans (hb1.mono (Nat.le_trans hb (Nat.le_of_lt hlt)))
  have hb3 : Below B0 w0 ((w1.setCell ⟨b, 3, none⟩ (.iface 135 (.pointer (some ⟨r, 0, none⟩)))).setCell ⟨b, 4, none⟩ (.slice none 0 0)) := (hb0.setCell (p := ⟨b, 3, none⟩) hb _).setCell (p := ⟨b, 4, none⟩) hb _
  have hfin : Hid (Built B0 w0 b ((w1.setCell ⟨b, 3, none⟩ (.iface 135 (.pointer (some ⟨r, 0, none⟩)))).setCell ⟨b, 4, none⟩ (.slice none 0 0))) := ⟨r, h3, r3, hrb, hb3⟩
  have hkp : Hid (Keeps b ((w1.setCell ⟨b, 3, none⟩ (.iface 135 (.pointer (some ⟨r, 0, none⟩)))).setCell ⟨b, 4, none⟩ (.slice none 0 0))) := ⟨blk_cell h3 0 _ rfl, blk_cell h3 1 _ rfl, frozen_of_heap h3 0, frozen_of_heap h3 1⟩
  clear hb1 hb0 hb3 r2 r3 hrep h1 h2 h3
  go_wp2_with fail
  go_end0
  exact ⟨rfl, hfin.out, hkp.out⟩
theorem bsr_any (r : Nat) (s : Txt) (hs : s.length ≤ 100000000) (w : World) (hR : RepAt w r) :
    Calls Tryz.prog 142 #[.pointer (some ⟨r, 0, none⟩), .string (B s)] w fun e w' => e = .returned (.string (B (escL s))) ∧ Below w.heap.size w w' := by
  by_cases h : s.length < 32
  · exact bsr_small r s h w hR
  · exact bsr_big r s (by omega) hs w hR
set_option maxRecDepth 100000 in
set_option maxHeartbeats 4000000 in
theorem Replace_any (B0 : Nat) (w0 : World) (b g q : Nat) (s : Txt) (hs : s.length ≤ 100000000) (w : World) (hF : Fresh w b g q 0) (hB : Below B0 w0 w) (hb : B0 ≤ b) :
    Calls Tryz.prog 39 #[.pointer (some ⟨b, 0, none⟩), .string (B s)] w fun e w' => e = .returned (.string (B (escL s))) ∧ Below B0 w0 w' := by
  have hF1 : Fresh (w.setCell ⟨b, 1, none⟩ (.int .i32 1)) b g q 1 := ⟨heap_set hF.blk 1 _, hF.row.same (Below.heap_setCell _ _ _ _ hF.ne), hF.ne⟩
  have hDo := Lib.hid (do_any b (.pointer (some ⟨b, 0, none⟩)) (Built B0 w0 b) w (blk_cell hF.blk 0 _ rfl) (blk_cell hF.blk 1 _ rfl) (frozen_of_heap hF.blk 0) (frozen_of_heap hF.blk 1)
    (buildOnce_any B0 w0 b g q _ hF1 (hB.setCell (p := ⟨b, 1, none⟩) hb _) hb))
  clear hF hF1 hB
  go_enter Tryz.func39, Tryz.ntmps39
  go_wp2_with fail
  refine hDo.out.mono ?_
  rintro e w1 ⟨rfl, W, ⟨r, g1, g2, g3, g4⟩, ⟨k0, k1, k2, k3⟩, rfl⟩
  have r1 : RepAt W.drew r := g2.same fun _ => rfl
  have h1 : W.drew.heap[b]? = some (.cells #[.int .u32 0, .int .i32 1, .int .u32 0, .iface 135 (.pointer (some ⟨r, 0, none⟩)), .slice none 0 0] 95 (0, 0)) := g1
  have h2 := heap_set h1 0 (.int .u32 1)
  have h3 := heap_set h2 1 (.int .i32 0)
  have r2 := RepAt.store r1 (blk_cell h1 0 _ rfl) g3 (fun _ => by simp) (fun _ => by simp) (.int .u32 1)
  have r3 := RepAt.store r2 (blk_cell h2 1 (.int .i32 1) rfl) g3 (fun _ => by simp) (fun _ => by simp) (.int .i32 0)
  have hb3 : Below B0 w0 ((W.drew.setCell ⟨b, 0, none⟩ (.int .u32 1)).setCell ⟨b, 1, none⟩ (.int .i32 0)) := (g4.drew.setCell (p := ⟨b, 0, none⟩) hb _).setCell (p := ⟨b, 1, none⟩) hb _
  have c3 := blk_cell h3 3 (.iface 135 (.pointer (some ⟨r, 0, none⟩))) rfl
  have hlt3 := (Array.getElem?_eq_some_iff.1 h3).1
  clear g1 g2 g4 k0 k1 k2 k3 r1 r2 h1 h2 h3
  generalize (W.drew.setCell ⟨b, 0, none⟩ (.int .u32 1)).setCell ⟨b, 1, none⟩ (.int .i32 0) = W1 at *
  have hRp := Lib.hid (bsr_any r s hs W1 r3)
  have HB := Lib.hid hb3
  clear r3 hb3
  go_wp2_with fail
  refine hRp.out.mono ?_
  rintro e w2 ⟨rfl, hb2⟩
  go_wp2_with fail
  go_ret
  exact ⟨rfl, HB.out.trans (hb2.mono (by omega))⟩
set_option maxRecDepth 100000 in
set_option maxHeartbeats 4000000 in
theorem Escape_any (s : Txt) (hs : s.length ≤ 100000000) (w : World) :
    Calls Tryz.prog 27 #[.string (B s)] w fun e w' => e = .returned (.string (B (escL s))) ∧ Below w.heap.size w w' := by
  have hNew : Hid (∀ W, W = w.alloc (.cells #[.string (B [36]), .string (B [36, 36]), .string (B [32]), .string (B [36, 32]), .string (B [58]), .string (B [36, 58]), .string (B [124]), .string (B [36, 124])] 9) →
      Calls Tryz.prog 38 #[.slice (some ⟨w.heap.size, 0, none⟩) 8 8] W (NewPost W)) := by
    rintro W rfl
    refine NewReplacer_any (some ⟨w.heap.size, 0, none⟩) 8 _ ⟨rfl, by decide, fun _ => ⟨_, rfl, fun j p hj => ?_⟩⟩
    refine ⟨[.string p], rfl, rfl, fun i u hu => ?_⟩
    have hi : i = 0 := by have := (List.getElem?_eq_some_iff.1 hu).1; simp at this; omega
    subst hi
    have ha : ∀ q : Nat, (⟨w.heap.size, 0, none⟩ : Addr).add q = ⟨w.heap.size, q, none⟩ := fun q => by unfold Addr.add; by_cases hq : q = 0 <;> simp [hq]
    rw [ha, show j * Kd.string.sz + 0 = j by show j * 1 + 0 = j; omega, cell_of_heap (heap_alloc_new w _)]
    have hj8 : j < 8 := by have := (List.getElem?_eq_some_iff.1 hj).1; simpa [pairs] using this
    rcases (show j = 0 ∨ j = 1 ∨ j = 2 ∨ j = 3 ∨ j = 4 ∨ j = 5 ∨ j = 6 ∨ j = 7 by omega) with rfl | rfl | rfl | rfl | rfl | rfl | rfl | rfl <;>
      (cases hj; cases hu; rfl)
  go_enter Tryz.func27, Tryz.ntmps27
  go_wp2_with fail
  refine (hNew.out _ rfl).mono ?_
  rintro e w1 ⟨b, g, q, rfl, hb, hF, hb1⟩
  have hbw : w.heap.size ≤ b := by simp at hb; omega
  have hB1 : Below w.heap.size w w1 := ((Below.refl _ w).alloc (Nat.le_refl _) _).trans (hb1.mono (by simp))
  have hRe := Lib.hid (Replace_any w.heap.size w b g q s hs w1 hF hB1 hbw)
  clear hF hB1 hb1 hb
  go_wp2_with fail
  refine hRe.out.mono ?_
  rintro e w2 ⟨rfl, hb2⟩
  go_wp2_with fail
  go_ret
  exact ⟨rfl, hb2⟩
end Go.Proofs.YtapdchapjpnceaaGreatDoor.Rep
end
section
set_option linter.unusedVariables false
namespace Go.Proofs.YtapdchapjpnceaaGreatDoor.P
open Go.RowKit Go.Proofs.YtapdchapjpnceaaGreatDoor.U Go.Proofs.YtapdchapjpnceaaGreatDoorW.PrintWords Go.Proofs.YtapdchapjpnceaaGreatDoorW.PrintLast Go.Proofs.YtapdchapjpnceaaGreatDoorW.PrintMore
def scope_Escape.f (a0 : ByteArray) : Option ByteArray := if a0.data.toList.length ≤ 100000000 then some (B (Sc.escL a0.data.toList)) else none
theorem scope_Escape.calls (a0 : ByteArray) (r : ByteArray) (w : World) (h : scope_Escape.f a0 = some r) :
    Calls Tryz.prog 27 #[.string a0] w fun e w' => e = .returned (.string r) ∧ Below w.heap.size w w' := by
  unfold scope_Escape.f at h
  split at h
  · rename_i hc
    have h' := Option.some.inj h
    subst h'
    have := Rep.Escape_any a0.data.toList hc w
    rw [← B_of] at this
    exact this
  · cases h
end Go.Proofs.YtapdchapjpnceaaGreatDoor.P
end
section
set_option linter.unusedVariables false
namespace Go.Proofs.YtapdchapjpnceaaGreatDoor.P
open Go.RowKit Go.Proofs.YtapdchapjpnceaaGreatDoorW.PrintWords Go.Proofs.YtapdchapjpnceaaGreatDoorW.PrintLast Go.Proofs.YtapdchapjpnceaaGreatDoorW.PrintMore
def strconv_Itoa_26.f (a0 : Int) : Option ByteArray := if 0 ≤ a0 ∧ a0 < 100 then some ⟨(Lib.decDigits a0.toNat).toArray⟩ else none
theorem strconv_Itoa_26.calls (a0 : Int) (r : ByteArray) (w : World) (h : strconv_Itoa_26.f a0 = some r) :
    Calls Tryz.prog 26 #[.int .i64 a0] w fun e w' => e = .returned (.string r) ∧ Below w.heap.size w w' := by
  unfold strconv_Itoa_26.f at h
  split at h
  · rename_i hc
    obtain ⟨i, rfl⟩ : ∃ i : Nat, a0 = (i : Int) := ⟨a0.toNat, by omega⟩
    rw [Int.toNat_natCast] at h
    have h' := Option.some.inj h
    subst h'
    exact (Tryz.strconv_Itoa_small i (by omega) w).mono fun e w' ⟨he, hw⟩ => ⟨he, hw ▸ Below.refl _ _⟩
  · cases h
end Go.Proofs.YtapdchapjpnceaaGreatDoor.P
end
