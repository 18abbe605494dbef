/- Laid together by wip/tools/shake.py from texts of this claim: RangeP, SplitP, WpIn, CkMut, CkLine, AppStr, CkPInv, CkPuts, CkInc, CkPlain, CkOut, CkShp, CkDish, TpPlain, TpCat, RegT, RegQ, TpKind, TpEdge, TpMapI, PSlicesIndexIntInt0, PSlicesContainsIntInt0, TpGraph, TpMade. -/
import Derived.Test.YtnegfigaiomehaaGreatDoorTz2
import Derived.OwnWalkIn
import Derived.OrdersIn
import Derived.RangeFuncCalls
import Derived.Lib.AppendStr
import Derived.Shelf.Strings.FieldsFuncGrows
import Derived.OwnWalk
import Derived.Laws.AppendOwn
import Derived.Laws.OwnMore
import Derived.Lib.SliceRun
import Derived.WalkKit
import Derived.Lib.Walk
import Derived.Lib.Hide
import Derived.Lib.AppendZerosOnto
import Derived.Tactics
import Derived.RowKit
import Derived.Lib.SlKeysI
import Derived.Test.YtnegfigaiomehaaGreatDoorProg
import Derived.Maps.Own
import Derived.Maps.OwnSet
import Derived.Maps.OwnOps
import Derived.Maps.Views
import Derived.Maps.StringElems
import Derived.Maps.AppendAt
import Derived.Below
import Derived.ProofKit
import Derived.WideKeyEntry
set_option linter.unusedVariables false
set_option linter.unusedSimpArgs false
section
namespace Go.Proofs.YtnegfigaiomehaaGreatDoor.Rng
open Go.RowKit Go.Shelf
variable {P : Program}
def wpAt (P : Program) (f : FuncId) (c : Code) (Q : Exit → Act → World → Prop) (a : Act) (w : World) : Prop :=
 ∀ (b : Frame) (k : List Item) (cs : List Frame), b.roundOf = none → b.fn = f →
  ∃ e a' w', Q e a' w' ∧ ArrivesIn (Machine.fenced P Fence.wide) P (lone (b.atR a (.code c :: k)) cs w) b k cs e a' w'
section
variable {f : FuncId} {Q : Exit → Act → World → Prop} {a : Act} {w : World}
theorem calmW (fr : Frame) (cs : List Frame) (w : World) : (lone fr cs w).fenced P Fence.wide := fenced_wide P _
theorem wpAt_of_wp {c : Code} (h : c.wp P Q a w) : wpAt P f c Q a w :=
 fun b k cs hro _ => (wpIn_wide (n := 0)).2 h b k cs hro trivial (room_wide _)
theorem wpAt_seq {x y : Code} (h : wpAt P f x (Exit.then (fun a w => wpAt P f y Q a w) Q) a w) : wpAt P f (.seq x y) Q a w := by
 intro b k cs hro hb
 obtain ⟨e, a1, w1, hq, harr⟩ := h b (.code y :: k) cs hro hb
 have s0 : StepsIn (Machine.fenced P Fence.wide) P (lone (b.atR a (.code (.seq x y) :: k)) cs w) (lone (b.atR a (.code x :: .code y :: k)) cs w) := .one (calmW _ _ _) stepR_seq
 cases e with
 | normal =>
  obtain ⟨e2, a2, w2, hq2, harr2⟩ := hq b k cs hro hb
  exact ⟨e2, a2, w2, hq2, .of_steps (s0.trans harr) harr2⟩
 | exit id => exact ⟨_, a1, w1, hq, .of_steps s0 (.pass (x := .code y) rfl (fun _ _ => .inl (by simp)) harr)⟩
 | goto l => exact ⟨_, a1, w1, hq, .of_steps s0 (.pass (x := .code y) rfl (fun _ _ => .inl (by simp)) harr)⟩
 | ret => exact ⟨_, a1, w1, hq, .of_steps s0 (.pass (x := .code y) rfl (fun _ _ => .inl (by simp)) harr)⟩
 | panic ch => exact ⟨_, a1, w1, hq, .of_steps s0 (.pass (x := .code y) rfl (fun _ _ => .inl (by simp)) harr)⟩
 | outgrown => exact ⟨_, a1, w1, hq, .of_steps s0 (.pass (x := .code y) rfl (fun _ _ => .inl (by simp)) harr)⟩
theorem wpAt_seq_k {x y : Code} (h : ∀ K : Act → World → Prop, (∀ a w, wpAt P f y Q a w → K a w) → x.wp P (Exit.then K Q) a w) : wpAt P f (.seq x y) Q a w :=
 wpAt_seq (wpAt_of_wp (h _ fun _ _ h => h))
theorem wpAt_block {id : Nat} {c : Code} (h : wpAt P f c (Exit.inBlock id Q) a w) : wpAt P f (.block id c) Q a w := by
 intro b k cs hro hb
 obtain ⟨e, a₁, w₁, hq, harr⟩ := h b (.inBlock id :: k) cs hro hb
 cases e with
 | normal => exact ⟨.normal, a₁, w₁, hq, .head (calmW _ _ _) stepR_block (StepsIn.trans harr (.one (calmW _ _ _) stepR_inBlock))⟩
 | exit id' =>
  by_cases hid : id' = id
  ·simp only [Exit.inBlock, hid, if_true] at hq
   exact ⟨.normal, a₁, w₁, hq, .head (calmW _ _ _) stepR_block (harr.1 k (by simp [exitTo, hid]))⟩
  ·simp only [Exit.inBlock, hid, if_false] at hq
   have this : (id == id') = false := by simp; exact fun h => hid h.symm
   have hx : exitTo id' (.inBlock id :: k) = exitTo id' k := by simp [exitTo, this]
   exact ⟨.exit id', a₁, w₁, hq, fun k' hk => .head (calmW _ _ _) stepR_block (harr.1 k' (by rw [hx]; exact hk)),
    fun hr' hk => let ⟨k₁, h1, h2⟩ := harr.2 hr' (by rw [hx]; exact hk); ⟨k₁, h1, .head (calmW _ _ _) stepR_block h2⟩⟩
 | goto l =>
  have hx : gotoIn l (.inBlock id :: k) = gotoIn l k := by simp [gotoIn]
  exact ⟨_, a₁, w₁, hq, fun k' hk => .head (calmW _ _ _) stepR_block (harr.1 k' (by rw [hx]; exact hk)),
   fun hr' hk => let ⟨k₁, h1, h2⟩ := harr.2 hr' (by rw [hx]; exact hk); ⟨k₁, h1, .head (calmW _ _ _) stepR_block h2⟩⟩
 | ret => exact ⟨_, a₁, w₁, hq, .of_steps (.one (calmW _ _ _) stepR_block) harr⟩
 | panic ch => exact ⟨_, a₁, w₁, hq, .of_steps (.one (calmW _ _ _) stepR_block) harr⟩
 | outgrown => exact ⟨_, a₁, w₁, hq, .of_steps (.one (calmW _ _ _) stepR_block) harr⟩
theorem calls_of_wpAt {fn : Func} {c : Code} {args : Array Value} {R : Ending → World → Prop} (hf : P.funcs[f]? = some fn) (hb : fn.body = some c)
  (h : wpAt P f c (bodyPostM Fence.wide 3 P fn R) { tmps := args ++ Array.replicate (fn.ntmps - args.size) undef, defers := [] } w) : Calls P f args w R := by
 refine (callsIn_wide (n := 3)).1 ⟨trivial, fun cs hr => ?_⟩
 let b : Frame := { (default : Frame) with fn := f, kind := .normal, roundOf := none }
 have henter : Frame.enter P f args .normal = b.atR { tmps := args ++ Array.replicate (fn.ntmps - args.size) undef, defers := [] } [.code c] := by
  simp [Frame.enter, Frame.atR, hf, hb, b]
 obtain ⟨e, a', w', hq, harr⟩ := h b [] cs rfl rfl
 rw [← henter] at harr
 cases e with
 | normal =>
  obtain ⟨e', w2, fr, hR, hs, hfn, hl⟩ := leaves_stepsInM a'.defers .returning w' { b.atR a' [] with mode := .returning } cs rfl rfl rfl hf rfl trivial hr hq
  exact ⟨e', w2, fr, hR, ComesIn.of_steps (StepsIn.trans harr (.one (calmW _ _ _) (stepR_end rfl))) hs, hfn, hl⟩
 | ret =>
  obtain ⟨todo, hs0⟩ := harr.1 rfl
  obtain ⟨e', w2, fr, hR, hs, hfn, hl⟩ := leaves_stepsInM a'.defers .returning w' { b.atR a' todo with mode := .returning } cs rfl rfl rfl hf rfl trivial hr hq
  exact ⟨e', w2, fr, hR, ComesIn.of_steps hs0 hs, hfn, hl⟩
 | panic chain =>
  obtain ⟨todo, hs0⟩ := harr
  obtain ⟨e', w2, fr, hR, hs, hfn, hl⟩ := leaves_stepsInM a'.defers (.panicking chain) w' { b.atR a' todo with mode := .panicking chain } cs rfl rfl rfl hf rfl trivial hr hq
  exact ⟨e', w2, fr, hR, ComesIn.of_steps hs0 hs, hfn, hl⟩
 | exit id => exact hq.elim
 | goto l => exact hq.elim
 | outgrown => exact ⟨.outgrown, w', b, hq, harr.resolve_left (by simp [b]), rfl, trivial⟩
def roundPostP (P : Program) (l : Nat) (R : Ending → World → Prop) : Exit → Act → World → Prop
 | .panic ch, a, w => a.defers = [] ∧ R (.panicked ch) w
 | e, a, w => roundPost P l R e a w
theorem round_panics {l : Nat} {fn : Func} {tmps : Array Value} {assign body : Code} {R : Ending → World → Prop} (hf : P.funcs[f]? = some fn)
  (h : assign.wpIn (Fence.wide.inRound l) 1 P (Exit.then (fun a1 w1 => ∃ w2, (Instr.beginRound l).run P w1 = .ok () w2 ∧ body.wpIn (Fence.wide.inRound l) 1 P (roundPostP P l R) a1 w2) (fun _ _ _ => False)) { tmps := tmps, defers := [] } w) :
  RoundIn Fence.wide 1 P l f tmps assign body w R := by
 refine ⟨trivial, fun c cs hr => ?_⟩
 let b : Frame := { (default : Frame) with fn := f, kind := .normal, roundOf := some l }
 have hb0 : Frame.round l f tmps assign body .normal = b.atR { tmps := tmps, defers := [] } [.code assign, .beginRound, .code body] := by
  simp [Frame.round, Frame.atR, b]
 obtain ⟨e, a1, w1, hq, harr⟩ := h b [.beginRound, .code body] (c :: cs) rfl trivial (room_wide _)
 rw [← hb0] at harr
 cases e with
 | normal =>
  obtain ⟨w2, hbr, hbody⟩ := hq
  have s1 : StepsIn (Machine.fenced P Fence.wide) P (lone (b.atR a1 [.beginRound, .code body]) (c :: cs) w1) (lone (b.atR a1 [.code body]) (c :: cs) w2) := .one (calmW _ _ _) (stepR_beginRound rfl hbr)
  obtain ⟨e2, a2, w3, hq2, harr2⟩ := hbody b [] (c :: cs) rfl trivial (room_wide _)
  have s2 := StepsIn.trans harr s1
  cases e2 with
  | normal =>
   obtain ⟨v, w4, hend, hR⟩ := hq2
   exact ⟨.returned v, w4, hR, s2.trans (StepsIn.trans harr2 (.one (calmW _ _ _) (stepR_round_end rfl rfl hend)))⟩
  | ret =>
   obtain ⟨v, w4, hend, hR⟩ := hq2
   obtain ⟨k1, hs⟩ := harr2.2 rfl
   exact ⟨.returned v, w4, hR, s2.trans (StepsIn.trans hs (.one (calmW _ _ _) (stepR_round_ret rfl rfl hend)))⟩
  | exit id =>
   obtain ⟨v, w4, hend, hR⟩ := hq2
   obtain ⟨k1, hk, hs⟩ := harr2.2 rfl rfl
   exact ⟨.returned v, w4, hR, s2.trans (StepsIn.trans hs (.one (calmW _ _ _) (stepR_round_exit rfl rfl hk hend)))⟩
  | goto t =>
   obtain ⟨v, w4, hend, hR⟩ := hq2
   obtain ⟨k1, hk, hs⟩ := harr2.2 rfl rfl
   exact ⟨.returned v, w4, hR, s2.trans (StepsIn.trans hs (.one (calmW _ _ _) (stepR_round_goto rfl rfl hk hend)))⟩
  | panic ch =>
   obtain ⟨hd, hR⟩ := hq2
   obtain ⟨todo, hs⟩ := harr2
   exact ⟨.panicked ch, w3, hR, s2.trans (StepsIn.trans hs (.one (calmW _ _ _) (step_leave_panicked ⟨rfl, hd, fn, hf⟩)))⟩
  | outgrown => exact hq2.elim
 | exit id => exact hq.elim
 | goto t => exact hq.elim
 | ret => exact hq.elim
 | panic ch => exact hq.elim
 | outgrown => exact hq.elim
def rangeEnd (P : Program) (f : FuncId) (l : Nat) (Q : Exit → Act → World → Prop) (a : Act) : Ending → World → Prop
 | .returned _, w => ∃ jump w2, (Instr.endLoop l).run P w = .ok jump w2 ∧ (match jump with
  | none => Q .normal a w2
  | some c => wpAt P f c Q a w2)
 | .panicked ch, w => Q (.panic ch) a w
 | .outgrown, _ => False
theorem wpAt_range {g : Operand} {ps : Array Tmp} {assign body : Code} {l : Nat} {mark : List Deferred} {w1 w1' w2 : World} {d : Deferred} {gf : FuncId} {args : Array Value}
  (he : (Instr.enterLoop f a.tmps ps assign body none).run P w = .ok (l, mark) w1) (hres : (resolve a.eval (rangeCall g l) 0).run P w1 = .ok d w1') (hinv : (invoke d.target d.args).run P w1' = .ok (.enter gf args) w2)
  (hcall : CallsIn Fence.wide 2 P gf args w2 (rangeEnd P f l Q { a with defers := mark ++ a.defers })) : wpAt P f (.rangeFunc g ps assign body) Q a w := by
 intro b k cs hro hb
 subst hb
 rw [← hro] at he
 have henter : StepsIn (Machine.fenced P Fence.wide) P (lone (b.atR a (.code (.rangeFunc g ps assign body) :: k)) cs w) (lone (Frame.enter P gf args .normal) (b.atR { a with defers := mark ++ a.defers } (.inRangeFunc l :: k) :: cs) w2) :=
  .one (calmW _ _ _) (stepR_rangeFunc he hres hinv)
 obtain ⟨e, w3, fr, hR, hsteps, hfn, hleave⟩ := hcall.2 (b.atR { a with defers := mark ++ a.defers } (.inRangeFunc l :: k) :: cs) (room_wide _)
 cases e with
 | outgrown => exact hR.elim
 | returned v =>
  obtain ⟨jump, w4, hend, hj⟩ := hR
  have sback := henter.trans (StepsIn.trans hsteps (.head (calmW _ _ _) (by rw [← finish_atR_inRangeFunc l v]; exact step_leave_returned hleave) (.one (calmW _ _ _) (stepR_endRangeFunc (b := b) (a := { a with defers := mark ++ a.defers }) (k := k) (cs := cs) hend))))
  cases jump with
  | none => exact ⟨.normal, _, w4, hj, sback⟩
  | some c =>
   obtain ⟨e', a2, w5, hq, harr⟩ := hj b k cs hro rfl
   exact ⟨e', a2, w5, hq, .of_steps sback harr⟩
 | panicked ch =>
  refine ⟨.panic ch, _, w3, hR, .inRangeFunc l :: k, henter.trans (StepsIn.trans hsteps (.one (calmW _ _ _) ?_))⟩
  rw [← Frame.raise_atR]; exact step_leave_panicked hleave
end
def SeqOfP (P : Program) (gf : Nat) (lb : Array Value) (b : Nat) (xs : List ByteArray) (w : World) : Prop :=
 ∀ (l : Nat) (J Jx : List ByteArray → World → Prop) (Jp : List PanicEntry → World → Prop) (W : World), Below w.heap.size w W →
  (∀ pre W1 u, J pre W1 → J pre (W1.setCell ⟨b, 0, none⟩ u)) →
  (∀ pre x W1, J pre W1 → (pre ++ [x]) <+: xs → YieldAt Fence.wide 1 P l #[.string x] W1 fun e W' =>
   (e = .returned (.bool true) ∧ J (pre ++ [x]) W' ∧ Kept3 b W1 W') ∨ (e = .returned (.bool false) ∧ Jx (pre ++ [x]) W') ∨ ∃ ch, e = .panicked ch ∧ Jp ch W') →
  J [] W →
  CallsIn Fence.wide 2 P gf (#[.func (.yield l) #[] #[]] ++ lb) W fun e W' => ((∃ v, e = .returned v) ∧ (J xs W' ∨ ∃ pre, pre <+: xs ∧ Jx pre W')) ∨ ∃ ch, e = .panicked ch ∧ Jp ch W'
def ownPostP {α : Type} (B : Nat) (Kp : World → World → Prop) (I : List α → World → Prop) (Ix : Code → List α → World → Prop) (Ip : List PanicEntry → World → Prop) (xs : List α) (W : World) : Exit → Act → World → Prop
 | .panic ch, a, W' => a.defers = [] ∧ KeepsFrom B W W' ∧ Ip ch W'
 | e, a, W' => ownPostG B Kp I Ix xs W e a W'
theorem wpAt_range_strP {f : FuncId} {fn : Func} (hf : P.funcs[f]? = some fn) {g : Operand} {p : Tmp} {assign body : Code} {Q : Exit → Act → World → Prop} {a : Act} {w : World} {gf : Nat} {lb : Array Value} {b : Nat} {xs : List ByteArray} {w0 : World}
  (hg : a.eval g = .func (.func gf) #[] lb) (eg : ∀ args w, (callFunc gf args).run P w = .ok (.enter gf args) w)
  (hseq : SeqOfP P gf lb b xs w0) (hb0 : Below w0.heap.size w0 w) (hbw : b + 2 < w.heap.size)
  (I : List ByteArray → World → Prop) (Ix : Code → List ByteArray → World → Prop) (Ip : List PanicEntry → World → Prop) (hI : OwnFrom w.heap.size I) (hIx : ∀ c, OwnFrom w.heap.size (Ix c))
  (hIs : ∀ pre W u, I pre W → I pre (W.setCell ⟨b, 0, none⟩ u)) (h0 : I [] w) (a₁ : ByteArray → Act)
  (hassign : ∀ (l : Nat) (x : ByteArray) (W : World) (K : Act → World → Prop), K (a₁ x) W →
   assign.wpIn (Fence.wide.inRound l) 1 P (Exit.then K (fun _ _ _ => False)) { tmps := (#[p].zip #[Value.string x]).foldl (fun t (p, v) => t.setIfInBounds p v) a.tmps, defers := [] } W)
  (hbody : ∀ (l : Nat) (pre : List ByteArray) (x : ByteArray) (W : World), I pre W → (pre ++ [x]) <+: xs → body.wpIn (Fence.wide.inRound l) 1 P (ownPostP w.heap.size (Kept3 b) I Ix Ip (pre ++ [x]) W) (a₁ x) W)
  (hdone : ∀ (D : Nat) (W : World), w.heap.size ≤ D → I xs W → W.heap[D]? = some (.deferred (some [])) → Q .normal { a with defers := { target := .collected D, args := #[] } :: a.defers } W)
  (hstop : ∀ (D : Nat) (c : Code) (pre : List ByteArray) (W : World), w.heap.size ≤ D → pre <+: xs → Ix c pre W → W.heap[D]? = some (.deferred (some [])) → wpAt P f c Q { a with defers := { target := .collected D, args := #[] } :: a.defers } W)
  (hpan : ∀ (D : Nat) (ch : List PanicEntry) (W : World), w.heap.size ≤ D → Ip ch W → W.heap[D]? = some (.deferred (some [])) → Q (.panic ch) { a with defers := { target := .collected D, args := #[] } :: a.defers } W) :
  wpAt P f (.rangeFunc g #[p] assign body) Q a w := by
 obtain ⟨rec, hrec⟩ : ∃ rec : LoopState → Option Code → Loop, rec = fun st pe => { state := st, pending := pe, fn := f, tmps := a.tmps, params := #[p], assign, body, defers := w.heap.size } := ⟨_, rfl⟩
 obtain ⟨W1, hW1⟩ : ∃ W1, (w.alloc (.deferred (some []))).alloc (.loop (rec .ready none)) = W1 := ⟨_, rfl⟩
 have hL1 : W1.heap[w.heap.size + 1]? = some (.loop (rec .ready none)) := by
  rw [← hW1]; have := World.alloc_heap_new (w.alloc (.deferred (some []))) (.loop (rec .ready none)); rwa [World.size_alloc] at this
 have hD1 : W1.heap[w.heap.size]? = some (.deferred (some [])) := by
  rw [← hW1]; exact (Below.heap_alloc _ _ _ (by simp)).trans (World.alloc_heap_new w _)
 have hI1 : I [] W1 := by rw [← hW1]; exact hI.alloc _ (hI.alloc _ h0)
 have hb1 : Below w0.heap.size w0 W1 := by
  rw [← hW1]; exact hb0.trans ((((Below.refl _ w).alloc (Nat.le_refl _) _).alloc (by simp) _).mono hb0.size)
 refine wpAt_range (l := w.heap.size + 1) (mark := [{ target := .collected w.heap.size, args := #[] }]) (w1 := W1) (w1' := W1) (w2 := W1) (d := { target := .fn (.func gf) lb, args := #[.func (.yield (w.heap.size + 1)) #[] #[]] }) (gf := gf)
  (args := #[.func (.yield (w.heap.size + 1)) #[] #[]] ++ lb) ?_ ?_ ?_ ?_
 ·rw [← hW1, hrec]; exact run_enterLoop_outer _ _ _ _ _
 ·simp only [resolve, hg]
  simp [go_sem]
 ·simp [invoke, go_sem, eg]
 ·refine (hseq (w.heap.size + 1)
   (fun pre W => I pre W ∧ W.heap[w.heap.size + 1]? = some (.loop (rec .ready none)) ∧ W.heap[w.heap.size]? = some (.deferred (some [])))
   (fun pre W => ∃ c, Ix c pre W ∧ W.heap[w.heap.size + 1]? = some (.loop (rec .done (some c))) ∧ W.heap[w.heap.size]? = some (.deferred (some [])))
   (fun ch W => Ip ch W ∧ W.heap[w.heap.size]? = some (.deferred (some [])))
   W1 hb1
   (fun pre W u hs => ⟨hIs pre W u hs.1, (KeepsOthers.setCell W _ u).same _ _ hs.2.1 rfl, (KeepsOthers.setCell W _ u).same _ _ hs.2.2 rfl⟩)
   ?_ ⟨hI1, hL1, hD1⟩).mono ?_
  ·rintro pre x W ⟨hi, hl, hk⟩ hpx
   have hlt : w.heap.size + 1 < W.heap.size := (Array.getElem?_eq_some_iff.1 hl).1
   have hy := run_yield (P := P) (args := #[.string x]) hl (by rw [hrec]; rfl)
   rw [hrec] at hy
   refine ⟨f, _, assign, body, hy, round_panics hf (hassign _ x W _ ⟨_, run_beginRound hl (by rw [hrec]), ?_⟩)⟩
   obtain ⟨W2, hW2⟩ : ∃ W2, W.putObj (w.heap.size + 1) (.loop { rec .ready none with state := .busy }) = W2 := ⟨_, rfl⟩
   have hl2 : W2.heap[w.heap.size + 1]? = some (.loop { rec .ready none with state := .busy }) := by rw [← hW2]; exact World.putObj_heap_same hlt
   have hk2 : W2.heap[w.heap.size]? = some (.deferred (some [])) := by rw [← hW2]; exact (World.putObj_heap_other (by omega)).trans hk
   have hs2 : Kept3 b W W2 := by rw [← hW2]; exact Kept3.putObj _ _ (by omega)
   have hi2 : I pre W2 := by rw [← hW2]; exact hI.putObj _ hi (by omega) hl rfl
   rw [hW2]
   refine wpIn_mono (hbody _ pre x _ hi2 hpx) ?_
   have fin : ∀ (jump : Option Code) (W3 : World), KeepsFrom w.heap.size W2 W3 →
     (Instr.endRound (w.heap.size + 1) jump).run P W3 = .ok (.bool jump.isNone) (W3.putObj (w.heap.size + 1) (.loop (rec (if jump.isNone then .ready else .done) jump))) ∧
     W3.heap[w.heap.size + 1]? = some (.loop { rec .ready none with state := .busy }) ∧
     (W3.putObj (w.heap.size + 1) (.loop (rec (if jump.isNone then .ready else .done) jump))).heap[w.heap.size + 1]? = some (.loop (rec (if jump.isNone then .ready else .done) jump)) ∧
     (W3.putObj (w.heap.size + 1) (.loop (rec (if jump.isNone then .ready else .done) jump))).heap[w.heap.size]? = some (.deferred (some [])) := fun jump W3 hk3 => by
    have hl3 := hk3.same _ _ (by omega) hl2 rfl
    have h := run_endRound (P := P) jump hl3
    rw [hrec] at h ⊢
    exact ⟨h, by rw [hrec] at hl3; exact hl3, World.putObj_heap_same (Array.getElem?_eq_some_iff.1 hl3).1, (World.putObj_heap_other (by omega)).trans (hk3.same _ _ (Nat.le_refl _) hk2 rfl)⟩
   have out : ∀ (c : Code) (W3 : World), KeepsFrom w.heap.size W2 W3 → Ix c (pre ++ [x]) W3 → ∃ c', Ix c' (pre ++ [x]) (W3.putObj (w.heap.size + 1) (.loop (rec .done (some c)))) ∧
     (W3.putObj (w.heap.size + 1) (.loop (rec .done (some c)))).heap[w.heap.size + 1]? = some (.loop (rec .done (some c'))) ∧ (W3.putObj (w.heap.size + 1) (.loop (rec .done (some c)))).heap[w.heap.size]? = some (.deferred (some [])) := fun c W3 hk3 hx3 => by
    obtain ⟨_, hl3, hl4, hk4⟩ := fin (some c) W3 hk3
    exact ⟨c, (hIx c).putObj _ hx3 (by omega) hl3 rfl, hl4, hk4⟩
   rintro e a3 W3 hp
   cases e with
   | normal =>
    obtain ⟨hk3, hkp3, hi3⟩ := hp
    obtain ⟨hr, hl3, hl4, hk4⟩ := fin none W3 hk3
    exact ⟨_, _, hr, .inl ⟨rfl, ⟨hI.putObj _ hi3 (by omega) hl3 rfl, hl4, hk4⟩, (hs2.trans hkp3).trans (Kept3.putObj _ _ (by omega))⟩⟩
   | ret => exact ⟨_, _, (fin (some .ret) W3 hp.1).1, .inr (.inl ⟨rfl, out .ret W3 hp.1 hp.2⟩)⟩
   | exit id => exact ⟨_, _, (fin (some (.exit id)) W3 hp.1).1, .inr (.inl ⟨rfl, out (.exit id) W3 hp.1 hp.2⟩)⟩
   | goto t => exact ⟨_, _, (fin (some (.goto t)) W3 hp.1).1, .inr (.inl ⟨rfl, out (.goto t) W3 hp.1 hp.2⟩)⟩
   | panic ch => exact ⟨hp.1, .inr (.inr ⟨ch, rfl, hp.2.2, hp.2.1.same _ _ (Nat.le_refl _) hk2 rfl⟩)⟩
   | outgrown => exact hp.elim
  ·rintro e W2 (⟨⟨v, rfl⟩, (⟨hi, hl, hk⟩ | ⟨pre, hSp, c, hi, hl, hk⟩)⟩ | ⟨ch, rfl, hi, hk⟩)
   ·exact ⟨none, _, by have h := run_endLoop (P := P) hl (by rw [hrec]; simp); rw [hrec] at h; exact h, hdone _ _ (Nat.le_refl _) (hI.putObj _ hi (by omega) hl rfl) ((World.putObj_heap_other (by omega)).trans hk)⟩
   ·exact ⟨some c, _, by have h := run_endLoop (P := P) hl (by rw [hrec]; simp); rw [hrec] at h; exact h, hstop _ c pre _ (Nat.le_refl _) hSp ((hIx c).putObj _ hi (by omega) hl rfl) ((World.putObj_heap_other (by omega)).trans hk)⟩
   ·exact hpan _ ch _ (Nat.le_refl _) hi hk
end Go.Proofs.YtnegfigaiomehaaGreatDoor.Rng
end
section
namespace Go.Proofs.YtnegfigaiomehaaGreatDoor.P
open Go.RowKit Go.Shelf Go.Proofs.YtnegfigaiomehaaGreatDoor.U Go.Proofs.YtnegfigaiomehaaGreatDoor.Rng
attribute [local go_sem] Oper.semAt_some
set_option maxRecDepth 100000 in
set_option maxHeartbeats 4000000 in
theorem split_seqP (c : UInt8) (k : Nat) (hk : k ≤ 1) (b : Nat) (s : List UInt8) (hs : s.length ≤ 1000000) (w : World) (hlt : b + 2 < w.heap.size)
  (hb0 : w.heap[b]? = some (.cells #[.string (B s)] 9 (0, 0))) (hb1 : w.heap[b + 1]? = some (.cells #[.string (B [c])] 9 (0, 0))) (hb2 : w.heap[b + 2]? = some (.cells #[.int .i64 (k : Int)] 3 (0, 0))) :
  SeqOfP Tryz.prog 185 #[.pointer (some ⟨b + 1, 0, none⟩), .pointer (some ⟨b, 0, none⟩), .pointer (some ⟨b + 2, 0, none⟩)] b ((splitK c k s).map B) w := by
 intro l J Jx Jp W hW hJs hY hJ0
 have HB0 : W.heap[b]? = some (.cells #[.string (B s)] 9 (0, 0)) := (hW.block _ (by omega)).trans hb0
 have HB1 : W.heap[b + 1]? = some (.cells #[.string (B [c])] 9 (0, 0)) := (hW.block _ (by omega)).trans hb1
 have HB2 : W.heap[b + 2]? = some (.cells #[.int .i64 (k : Int)] 3 (0, 0)) := (hW.block _ (by omega)).trans hb2
 clear hb0 hb1 hb2
 have c1 := cell_of_one HB1
 refine callsIn_of_wp Tryz.func185 rfl trivial ?_ rfl
 simp only [Tryz.ntmps185, List.size_toArray, List.length_cons, List.length_nil, Nat.reduceAdd, Nat.reduceSub, Array.replicate_succ, Array.replicate_zero, List.push_toArray, List.append_toArray, List.nil_append, List.cons_append]
 gi_wp2_with fail
 gi_loopg [] (s.length + 1) (fun gk wr => ∃ (pre : List ByteArray) (r : List UInt8), (splitK c k s).map B = pre ++ (splitK c k r).map B ∧ r.length < gk ∧ r.length ≤ 1000000 ∧
  Hid (wr.heap[b]? = some (.cells #[.string (B r)] 9 (0, 0))) ∧ Hid (wr.heap[b + 1]? = some (.cells #[.string (B [c])] 9 (0, 0))) ∧ Hid (wr.heap[b + 2]? = some (.cells #[.int .i64 (k : Int)] 3 (0, 0))) ∧ Hid (J pre wr))
 case atStart => exact ⟨[], s, rfl, by omega, hs, HB0, HB1, HB2, hJ0⟩
 case round =>
  clear c1
  obtain ⟨pre, r, hx, hgk, hr, h0, h1, h2, hj⟩ := hrel
  have c0 := cell_of_one h0.out
  have c1 := cell_of_one h1.out
  have c2 := cell_of_one h2.out
  have f0 := free_of_one h0.out
  have HX := Lib.hid hx
  clear hx
  rcases index_cases r c with ⟨hi, hn⟩ | ⟨a, r', hr', hn, hi⟩
  ·have HC : Hid (∀ W, CallsIn Fence.wide 1 Tryz.prog 187 #[.string (B r), .string (B [c])] W fun e w' => e = .returned (.int .i64 (-1)) ∧ W = w') := fun W => by
    have h := Tryz.strings_Index_one (B r) c W
    rw [data_B, hi] at h
    exact callsIn_wide.2 (h.mono fun e w' ⟨he, hw⟩ => ⟨he, hw.symm⟩)
   clear hi
   obtain ⟨fn, tmps, assign, body, hy, hR⟩ := hY pre (B r) wr hj.out (by rw [HX.out, splitK_none c k r hn]; simp)
   gi_wp2_with fail
   refine ⟨trivial, (HC.out _).mono ?_⟩
   rintro e w' ⟨rfl, rfl⟩
   gi_wp2_with fail
   refine hR.mono ?_
   rintro e W3 (⟨rfl, hJ3, hk3⟩ | ⟨rfl, hJx3⟩ | ⟨ch, rfl, hJp3⟩)
   ·gi_wp2_with fail
    go_end0
    exact .inl ⟨⟨_, rfl⟩, .inl (by rw [HX.out, splitK_none c k r hn]; exact hJ3)⟩
   ·gi_wp2_with fail
    go_end0
    exact .inl ⟨⟨_, rfl⟩, .inr ⟨_, by rw [HX.out, splitK_none c k r hn]; simp, hJx3⟩⟩
   ·exact ⟨rfl, .inr ⟨ch, rfl, hJp3⟩⟩
  ·have HC : Hid (∀ W, CallsIn Fence.wide 1 Tryz.prog 187 #[.string (B r), .string (B [c])] W fun e w' => e = .returned (.int .i64 (a.length : Int)) ∧ W = w') := fun W => by
    have h := Tryz.strings_Index_one (B r) c W
    rw [data_B, hi] at h
    exact callsIn_wide.2 (h.mono fun e w' ⟨he, hw⟩ => ⟨he, hw.symm⟩)
   clear hi
   have hlen : r.length = a.length + 1 + r'.length := by rw [hr']; simp; omega
   have hsz : (B r).size = a.length + 1 + r'.length := by rw [size_B, hlen]
   have ha1 : (a.length : Int) + (k : Int) ≤ (a.length : Int) + 1 + (r'.length : Int) := by omega
   have E1 : Hid ((B r).extract 0 (a.length + k) = B (a ++ [c].take k)) := by
    show (B r).extract 0 (a.length + k) = B (a ++ [c].take k)
    rw [extract_B, hr', List.drop_zero, List.take_append, List.take_of_length_le (by omega)]
    have : (c :: r').take (a.length + k - a.length) = [c].take k := by
     rw [Nat.add_sub_cancel_left]
     match k, hk with
     | 0, _ => rfl
     | 1, _ => rfl
    rw [this]
   have E2 : Hid ((B r).extract (a.length + 1) (a.length + 1 + r'.length) = B r') := by
    show (B r).extract (a.length + 1) (a.length + 1 + r'.length) = B r'
    rw [extract_B, List.take_of_length_le (by omega), hr', List.drop_append]
    simp
   have HS : Hid (splitK c k r = (a ++ [c].take k) :: splitK c k r') := by
    show splitK c k r = _
    rw [hr', splitK_at c k a r' hn]
   obtain ⟨fn, tmps, assign, body, hy, hR⟩ := hY pre (B (a ++ [c].take k)) wr hj.out (by rw [HX.out, HS.out]; simp)
   have hr3 : r'.length ≤ 1000000 := by omega
   have hr4 : a.length ≤ 1000000 := by omega
   clear hr'
   gi_wp2_with fail
   refine ⟨trivial, (HC.out _).mono ?_⟩
   rintro e w' ⟨rfl, rfl⟩
   rw [← E1.out] at hy
   gi_wp2_with fail
   refine hR.mono ?_
   rintro e W3 (⟨rfl, hJ3, hk3⟩ | ⟨rfl, hJx3⟩ | ⟨ch, rfl, hJp3⟩)
   ·have g0 := Lib.hid (hk3.1.trans h0.out)
    have g1 := Lib.hid (hk3.2.1.trans h1.out)
    have g2 := Lib.hid (hk3.2.2.trans h2.out)
    have d0 := cell_of_one g0.out
    have d1 := cell_of_one g1.out
    have e0 := free_of_one g0.out
    have J3 := Lib.hid hJ3
    obtain ⟨g', rfl⟩ : ∃ g', gk = g' + 1 := ⟨gk - 1, by omega⟩
    clear hk3 hJ3 c0 c1 c2 f0 hy hR
    gi_wp2_with fail
    gi_roundg g'
    case measure => omega
    case rel =>
     rw [E2.out]
     refine ⟨pre ++ [B (a ++ [c].take k)], r', ?_, by omega, hr3, one_setCell g0.out, ?_, ?_, hJs _ _ _ J3.out⟩
     ·rw [HX.out, HS.out]; simp
     ·exact (Below.heap_setCell _ _ _ _ (by show b + 1 ≠ b; omega)).trans g1.out
     ·exact (Below.heap_setCell _ _ _ _ (by show b + 2 ≠ b; omega)).trans g2.out
   ·gi_wp2_with fail
    refine bodyPost_ret (results_none rfl _ _ _) rfl ?_
    exact .inl ⟨⟨_, rfl⟩, .inr ⟨_, by rw [HX.out, HS.out]; simp, hJx3⟩⟩
   ·exact ⟨rfl, .inr ⟨ch, rfl, hJp3⟩⟩
end Go.Proofs.YtnegfigaiomehaaGreatDoor.P
end
section
namespace Go.Proofs.YtnegfigaiomehaaGreatDoor.RegP
open Go Go.Proofs.YtnegfigaiomehaaGreatDoor.RegG
section
variable {P : Program} {ops : Array Oper} {Q : Exit → Act → World → Prop} {l n : Nat}
theorem opIn_of {o : Oper} {a : Act} {w : World} {K : Act → World → Prop} (hd : ∀ c, o.op ≠ .defer c) (h : o.wp P a w K Q) : o.wpIn (Fence.wide.inRound l) n P a w K Q := by
 unfold Oper.wpIn
 refine ⟨fun f _ => trivial, ?_⟩
 rw [Oper.semAt_plain _ _ _ hd]
 unfold Oper.wp at h
 generalize (execOp a.eval o).run P w = r at h
 cases r with
 | ok x w' =>
  cases x with
  | value v => exact h
  | skip => exact h
  | defer d => exact h
  | enter f args => exact ⟨fun e => by simp [Fence.wide, Fence.inRound] at e, CallsIn.inRound l (callsIn_wide.2 h)⟩
  | row row args =>
   refine ⟨fun e => by simp [Fence.wide, Fence.inRound] at e, fun c cs _ => ?_⟩
   obtain ⟨v, w'', r, s⟩ := h c cs
   exact ⟨v, w'', r, stepsIn_wide.2 s⟩
  | _ => exact h.elim
 | halt x w' => cases x <;> first | exact h | exact h.elim
theorem opIn_at {i : Nat} {K K' : Act → World → Prop} {a : Act} {w : World} (hd : ∀ (j : Nat) (o : Oper) c, ops[j]? = some o → o.op ≠ .defer c) (hQ : ¬ LetsOut Q) (hK : ∀ a w, K a w → K' a w) (h : wpOp P ops Q i K a w) : wpOpIn (Fence.wide.inRound l) n P ops Q i K' a w := by
 unfold wpOp at h
 unfold wpOpIn
 cases hi : ops[i]? with
 | none => rw [hi] at h; exact hK _ _ h
 | some o =>
  rw [hi] at h
  simp only at h ⊢
  split
  ·rename_i hw
   rw [if_pos hw] at h
   rcases h with h | h
   ·exact Oper.wpIn_mono hK (opIn_of (hd i o · hi) h)
   ·exact absurd h.2 hQ
  ·rename_i hw
   rw [if_neg hw] at h
   exact ⟨fun f _ => trivial, hK _ _ h⟩
theorem anyIn_of {md : Region.Mode} (hd : ∀ (j : Nat) (o : Oper) c, ops[j]? = some o → o.op ≠ .defer c) (hQ : ¬ LetsOut Q) : ∀ (fuel : Nat) (listed : Array Bool) (a : Act) (w : World), wpAny P md ops Q fuel listed a w → wpAnyIn (Fence.wide.inRound l) n P md ops Q fuel listed a w
 | 0, _, _, _, h => h
 | fuel + 1, listed, a, w, h => ⟨h.1, fun i hi => opIn_at hd hQ (fun a w => anyIn_of hd hQ fuel _ a w) (h.2 i hi)⟩
def noDefer (ops : Array Oper) : Bool := ops.all fun o => match o.op with
 | .defer _ => false
 | _ => true
theorem noDefer_spec (h : noDefer ops = true) : ∀ (j : Nat) (o : Oper) c, ops[j]? = some o → o.op ≠ .defer c := by
 intro j o c hj e
 obtain ⟨hlt, rfl⟩ := Array.getElem?_eq_some_iff.1 hj
 unfold noDefer at h
 rw [Array.all_eq_true] at h
 have := h j hlt
 rw [e] at this
 cases this
theorem regionR {id : Nat} {a : Act} {w : World} (S : World → Prop) (k : Nat) (plan : List (Nat × Nat)) (hm : P.follows .mixedOrders = true) (hs : Region.noSelect ops = true) (hd : noDefer ops = true) (hl : plan.length = ops.size) (hok : planOk .any ops k plan (Array.replicate ops.size false) = true)
  (hQ : ¬ LetsOut Q) (hS : S w.drew) (h : wpPlan P ops Q S plan a w.drew) : (Code.region id ops true).wpIn (Fence.wide.inRound l) n P Q a w := by
 refine wpIn_region_any hm (anyIn_of (noDefer_spec hd) hQ _ _ _ _ (wpAny_of_G (S := S) (k := k) _ _ _ _ ?_))
 rw [← hl]
 rw [← hl] at hok
 exact any_of_plan hs plan _ a _ hok (fun _ => hS) h
end
end Go.Proofs.YtnegfigaiomehaaGreatDoor.RegP
end
section
namespace Go.Proofs.YtnegfigaiomehaaGreatDoor.Ck
open Go.RowKit Go.Lib Go.Shelf Go.Maps Go.Proofs.YtnegfigaiomehaaGreatDoorW.PrintWords Go.Proofs.YtnegfigaiomehaaGreatDoorW.PrintLast Go.Proofs.YtnegfigaiomehaaGreatDoorW.PrintMore Go.Proofs.YtnegfigaiomehaaGreatDoor.U Go.Proofs.YtnegfigaiomehaaGreatDoor.P Go.Proofs.YtnegfigaiomehaaGreatDoor.PTh Go.Proofs.YtnegfigaiomehaaGreatDoor.MapV Go.Proofs.YtnegfigaiomehaaGreatDoor.Rng
structure Mut (X : Nat → Prop) (w w' : World) : Prop where
 os : w'.os = w.os
 tape : w'.tape = w.tape
 output : w'.output = w.output
 size : w.heap.size ≤ w'.heap.size
 same : ∀ k, k < w.heap.size → ¬ X k → w'.heap[k]? = w.heap[k]?
section
variable {X Y : Nat → Prop} {w w1 w2 : World}
theorem Mut.refl (X : Nat → Prop) (w : World) : Mut X w w := ⟨rfl, rfl, rfl, Nat.le_refl _, fun _ _ _ => rfl⟩
theorem Mut.trans (h : Mut X w w1) (k : Mut Y w1 w2) (hxy : ∀ i, i < w.heap.size → Y i → X i) : Mut X w w2 :=
 ⟨k.os.trans h.os, k.tape.trans h.tape, k.output.trans h.output, Nat.le_trans h.size k.size, fun i hi hx => (k.same i (Nat.lt_of_lt_of_le hi h.size) (fun hy => hx (hxy i hi hy))).trans (h.same i hi hx)⟩
theorem Mut.of_below (h : Below w.heap.size w w1) : Mut X w w1 := ⟨h.os, h.tape, h.output, h.size, fun i hi _ => h.block i hi⟩
theorem Mut.mono (h : Mut X w w1) (hxy : ∀ i, i < w.heap.size → X i → Y i) : Mut Y w w1 := ⟨h.os, h.tape, h.output, h.size, fun i hi hy => h.same i hi (fun hx => hy (hxy i hi hx))⟩
theorem Mut.below {B : Nat} (h : Mut X w w1) (hB : ∀ i, X i → B ≤ i) (hw : B ≤ w.heap.size) : Below B w w1 := ⟨h.os, h.tape, h.output, h.size, fun i hi => h.same i (by omega) (fun hx => by have := hB i hx; omega)⟩
theorem Mut.grown {row : Option Nat} (h : Mut X w w1) (hg : w1.grownBy w2 row) (hr : ∀ k, row = some k → k < w.heap.size → X k) : Mut X w w2 :=
 ⟨hg.os.trans h.os, hg.tape.trans h.tape, hg.output.trans h.output, Nat.le_trans h.size hg.size, fun i hi hx => (hg.block i (Nat.lt_of_lt_of_le hi h.size) (fun e => hx (hr i e.symm hi))).trans (h.same i hi hx)⟩
theorem Mut.set (h : Mut X w w1) (p : Addr) (v : Value) (hp : p.block < w.heap.size → X p.block) : Mut X w (w1.setCell p v) :=
 ⟨h.os, h.tape, h.output, by simpa using h.size, fun i hi hx => (Below.heap_setCell w1 p v i (fun e => hx (by rw [e] at hi ⊢; exact hp hi))).trans (h.same i hi hx)⟩
theorem Mut.keeps {B : Nat} (h : Mut X w w1) (hX : ∀ k, X k → ∃ cs t, w.heap[k]? = some (.cells cs t (0, 0))) : KeepsFrom B w w1 :=
 ⟨h.size, fun k o _ hk ho => (h.same k (Array.getElem?_eq_some_iff.1 hk).1 (fun hx => by
  obtain ⟨cs, t, e⟩ := hX k hx
  rw [hk] at e; injection e with e; subst e; simp [Obj.isCells] at ho)).trans hk⟩
end
def Fresh (N : Nat) (v v' : Value) : Prop := v'.ownBlock = v.ownBlock ∨ ∃ b, v'.ownBlock = some b ∧ N ≤ b
theorem Fresh.refl (N : Nat) (v : Value) : Fresh N v v := .inl rfl
theorem Fresh.trans {N M : Nat} {a b c : Value} (h : Fresh N a b) (k : Fresh M b c) (hn : N ≤ M) : Fresh N a c := by
 rcases k with k | ⟨x, k, hx⟩
 ·rcases h with h | ⟨y, h, hy⟩
  ·exact .inl (k.trans h)
  ·exact .inr ⟨y, k.trans h, hy⟩
 ·exact .inr ⟨x, k, by omega⟩
theorem Fresh.mono {N M : Nat} {a b : Value} (h : Fresh N a b) (hm : M ≤ N) : Fresh M a b := by
 rcases h with h | ⟨y, h, hy⟩
 ·exact .inl h
 ·exact .inr ⟨y, h, by omega⟩
def strs (l : List Txt) : List Value := l.map fun t => Value.string (B t)
structure PSt (K : CK) (w : World) (s : PS) (vf vo : Value) : Prop where
 at_ : K.At w vf (s.many : Int)
 f : w.ownsRow (K.w0.heap.size + 1) 9 1 vf s.found.length (strs s.found)
 o : w.ownsRow (K.w0.heap.size + 1) 5 1 vo s.out.length (bcells s.out)
 lo : s.out.length ≤ 65536
 lm : s.many ≤ 1000
 lf : s.found.length ≤ s.many
 lt : ∀ t ∈ s.found, t.length ≤ 1000
def XP (K : CK) (vf vo : Value) (k : Nat) : Prop := k = K.w0.heap.size ∨ vf.ownBlock = some k ∨ vo.ownBlock = some k
theorem XP.ge {K : CK} {w : World} {s : PS} {vf vo : Value} (h : PSt K w s vf vo) {k : Nat} (hx : XP K vf vo k) : K.w0.heap.size ≤ k := by
 rcases hx with rfl | hx | hx
 ·exact Nat.le_refl _
 ·have := own_base h.f k hx; omega
 ·have := own_base h.o k hx; omega
theorem XP.cells {K : CK} {w : World} {s : PS} {vf vo : Value} (h : PSt K w s vf vo) {k : Nat} (hx : XP K vf vo k) : ∃ cs t, w.heap[k]? = some (.cells cs t (0, 0)) := by
 rcases hx with rfl | hx | hx
 ·exact ⟨_, _, h.at_.h⟩
 ·obtain ⟨cs, e⟩ := own_typed h.f k hx; exact ⟨cs, _, e⟩
 ·obtain ⟨cs, e⟩ := own_typed h.o k hx; exact ⟨cs, _, e⟩
theorem PSt.rows {K : CK} {w : World} {s : PS} {vf vo : Value} (h : PSt K w s vf vo) {k : Nat} (hf : vf.ownBlock = some k) : vo.ownBlock ≠ some k := by
 intro ho
 obtain ⟨cs, e1⟩ := own_typed h.f k hf
 obtain ⟨cs2, e2⟩ := own_typed h.o k ho
 rw [e1] at e2
 injection e2 with e2
 injection e2 with _ e2 _
 exact absurd e2 (by decide)
def Puts (K : CK) (r : Option PS) (w : World) (vf vo : Value) (e : Ending) (w' : World) : Prop := Mut (XP K vf vo) w w' ∧ match r with
 | none => e = fl
 | some s => ∃ vf' vo', e = .returned vo' ∧ PSt K w' s vf' vo' ∧ Fresh w.heap.size vf vf' ∧ Fresh w.heap.size vo vo'
theorem PSt.move {K : CK} {w w' : World} {s : PS} {vf vo : Value} (h : PSt K w s vf vo) (hb : Below K.w0.heap.size w w') (hk : ∀ k, XP K vf vo k → w'.heap[k]? = w.heap[k]?) : PSt K w' s vf vo :=
 ⟨⟨(hk _ (.inl rfl)).trans h.at_.h, h.at_.b.trans hb⟩, own_move h.f (fun k e => hk k (.inr (.inl e))), own_move h.o (fun k e => hk k (.inr (.inr e))), h.lo, h.lm, h.lf, h.lt⟩
theorem PSt.below {K : CK} {w w' : World} {s : PS} {vf vo : Value} (h : PSt K w s vf vo) (hb : Below w.heap.size w w') : PSt K w' s vf vo :=
 h.move (hb.mono h.at_.b.size) (fun k hx => by obtain ⟨cs, t, e⟩ := XP.cells h hx; exact hb.block k (Array.getElem?_eq_some_iff.1 e).1)
structure PInv (K : CK) (w : World) (N q deep : Nat) (vf0 vo0 : Value) (W : World) (s : PS) (vf vo : Value) : Prop where
 st : PSt K W s vf vo
 hc : W.heap[q]? = some (.cells #[at0 K.w0.heap.size] 106 (0, 0))
 ho : W.heap[q + 1]? = some (.cells #[vo] 37 (0, 0))
 hd : W.heap[q + 2]? = some (.cells #[.int .i64 (deep : Int)] 3 (0, 0))
 mu : Mut (XP K vf0 vo0) w W
 ff : Fresh N vf0 vf
 fo : Fresh N vo0 vo
theorem PInv.stay {K : CK} {w : World} {N q deep : Nat} {vf0 vo0 : Value} {W W' : World} {s : PS} {vf vo : Value} (h : PInv K w N q deep vf0 vo0 W s vf vo) (hb : Below K.w0.heap.size W W') (hm : Mut (fun _ => False) w w → True)
  (hk : ∀ k, XP K vf vo k ∨ k = q ∨ k = q + 1 ∨ k = q + 2 → W'.heap[k]? = W.heap[k]?) (hw : ∀ k, k < w.heap.size → W'.heap[k]? = W.heap[k]?) : PInv K w N q deep vf0 vo0 W' s vf vo :=
 ⟨h.st.move hb (fun k hx => hk k (.inl hx)), (hk _ (.inr (.inl rfl))).trans h.hc, (hk _ (.inr (.inr (.inl rfl)))).trans h.ho, (hk _ (.inr (.inr (.inr rfl)))).trans h.hd,
  ⟨hb.os.trans h.mu.os, hb.tape.trans h.mu.tape, hb.output.trans h.mu.output, Nat.le_trans h.mu.size hb.size, fun k hk' hx => (hw k hk').trans (h.mu.same k hk' hx)⟩, h.ff, h.fo⟩
theorem linesP_append (fs : List FileL) (r : PS → Txt → Option PS) : ∀ (a b : List Txt) (s : PS), linesP fs r (a ++ b) s = (linesP fs r a s).bind (linesP fs r b)
 | [], b, s => rfl
 | l :: a, b, s => by
  rw [List.cons_append, linesP, linesP]
  split
  ·split
   ·exact linesP_append fs r a b _
   ·rfl
  ·split
   ·rfl
   ·split
    ·split
     ·rfl
     ·exact linesP_append fs r a b _
    ·rfl
theorem linesP_none {fs : List FileL} {r : PS → Txt → Option PS} {a b xs : List Txt} {s s1 : PS} (h : linesP fs r a s = some s1) (hb : linesP fs r b s1 = none) (hp : a ++ b <+: xs) : linesP fs r xs s = none := by
 obtain ⟨c, rfl⟩ := hp
 rw [linesP_append, linesP_append, h]
 simp only [Option.bind_some, hb, Option.bind_none]
theorem linesP_some {fs : List FileL} {r : PS → Txt → Option PS} {a b : List Txt} {s s1 s2 : PS} (h : linesP fs r a s = some s1) (hb : linesP fs r b s1 = some s2) : linesP fs r (a ++ b) s = some s2 := by
 rw [linesP_append, h]; exact hb
end Go.Proofs.YtnegfigaiomehaaGreatDoor.Ck
end
section
namespace Go.Proofs.YtnegfigaiomehaaGreatDoor.Ck
open Go.RowKit Go.Lib Go.Shelf Go.Maps Go.Proofs.YtnegfigaiomehaaGreatDoorW.PrintWords Go.Proofs.YtnegfigaiomehaaGreatDoorW.PrintLast Go.Proofs.YtnegfigaiomehaaGreatDoorW.PrintMore Go.Proofs.YtnegfigaiomehaaGreatDoor.U Go.Proofs.YtnegfigaiomehaaGreatDoor.P Go.Proofs.YtnegfigaiomehaaGreatDoor.PTh Go.Proofs.YtnegfigaiomehaaGreatDoor.MapV Go.Proofs.YtnegfigaiomehaaGreatDoor.Rng
set_option maxRecDepth 100000 in
set_option maxHeartbeats 4000000 in
theorem cutp1_any (l : Txt) (w : World) (hl : l.length ≤ 1000000) :
  Calls Tryz.prog 171 #[.string (B l), .string ⟨#[35, 105, 110, 99, 108, 117, 100, 101, 32]⟩] w fun e w' => e = .returned (.tuple #[.string (B (if kInclude.isPrefixOf l = true then l.drop 9 else l)), .bool (kInclude.isPrefixOf l)]) ∧ w' = w := by
 have hP := Lib.hid (Tryz.stringslite_HasPrefix (B l) (B kInclude) w)
 rw [data_B, data_B] at hP
 have hq : Hid (Lib.hasPrefix l kInclude = kInclude.isPrefixOf l) := rfl
 rw [hq.out] at hP
 have hlen : Hid (kInclude.isPrefixOf l = true → 9 ≤ l.length) := fun h => by
  rw [List.isPrefixOf_iff_prefix] at h
  exact h.length_le
 clear hq
 generalize kInclude.isPrefixOf l = p at *
 go_enter Tryz.func171, Tryz.ntmps171
 go_wp2_with fail
 refine hP.out.mono ?_
 rintro e w1 ⟨rfl, rfl⟩
 cases p with
 | false =>
  go_wp2_with fail
  go_ret2
  exact ⟨rfl, rfl⟩
 | true =>
  have h9 := hlen.out rfl
  have h9i : (9 : Int) ≤ (l.length : Int) := by omega
  have hsz : (B l).size = l.length := size_B l
  have hex : (B l).extract 9 l.length = B (l.drop 9) := by rw [extract_B, List.take_length]
  go_wp2_with fail
  go_ret2
  exact ⟨rfl, rfl⟩
set_option maxRecDepth 100000 in
set_option maxHeartbeats 4000000 in
theorem cutp_any (l : Txt) (w : World) (hl : l.length ≤ 1000000) :
  Calls Tryz.prog 142 #[.string (B l), .string ⟨#[35, 105, 110, 99, 108, 117, 100, 101, 32]⟩] w fun e w' => e = .returned (.tuple #[.string (B (if kInclude.isPrefixOf l = true then l.drop 9 else l)), .bool (kInclude.isPrefixOf l)]) ∧ w' = w := by
 have hP := Lib.hid (cutp1_any l w hl)
 generalize kInclude.isPrefixOf l = p at *
 generalize (if p = true then l.drop 9 else l) = r at *
 go_enter Tryz.func142, Tryz.ntmps142
 go_wp2_with fail
 refine hP.out.mono ?_
 rintro e w1 ⟨rfl, rfl⟩
 go_wp2_with fail
 go_ret2
 exact ⟨rfl, rfl⟩
theorem trim_eq (l : Txt) : Lib.trimSuffix l [10] = trimNL l := by
 unfold Lib.trimSuffix trimNL Lib.hasSuffix
 by_cases h : l.getLast? = some 10
 ·obtain ⟨a, rfl⟩ : ∃ a, l = a ++ [10] := List.getLast?_eq_some_iff.1 h
  simp
 ·rw [if_neg h]
  have : ([10] : Txt).isSuffixOf l = false := by
   cases hq : ([10] : Txt).isSuffixOf l with
   | false => rfl
   | true =>
    rw [List.isSuffixOf_iff_suffix] at hq
    obtain ⟨a, ha⟩ := hq
    exact absurd (by rw [← ha]; simp) h
  rw [this]; rfl
theorem trimN_any (l : Txt) (w : World) (hl : l.length ≤ 1000000) :
  Calls Tryz.prog 59 #[.string (B l), .string ⟨#[10]⟩] w fun e w' => e = .returned (.string (B (trimNL l))) ∧ w' = w := by
 have := Tryz.strings_TrimSuffix (B l) (B [10]) w (by rw [size_B]; omega)
 refine this.mono ?_
 rintro e w' ⟨rfl, hw⟩
 refine ⟨?_, hw⟩
 show Ending.returned (.string ⟨(Lib.trimSuffix l [10]).toArray⟩) = _
 rw [trim_eq]
set_option maxRecDepth 100000 in
set_option maxHeartbeats 4000000 in
theorem splitSeq_any (s sep : ByteArray) (k : Int) (w : World) :
  Calls Tryz.prog 170 #[.string s, .string sep, .int .i64 k] w fun e w' => e = .returned (.func (.func 185) #[] #[.pointer (some ⟨w.heap.size + 1, 0, none⟩), .pointer (some ⟨w.heap.size, 0, none⟩), .pointer (some ⟨w.heap.size + 2, 0, none⟩)]) ∧
   ((w.alloc (.cells #[.string s] 9)).alloc (.cells #[.string sep] 9)).alloc (.cells #[.int .i64 k] 3) = w' := by
 have hmf : ∀ (fn : Fn) (first cap : Array Value) (w : World), (Instr.makeFunc fn first cap).run Tryz.prog w = .ok (.func fn first cap) w := fun _ _ _ _ => rfl
 go_enter Tryz.func170, Tryz.ntmps170
 go_wp2_with fail
 go_ret
 exact ⟨rfl, rfl⟩
set_option maxRecDepth 100000 in
set_option maxHeartbeats 4000000 in
theorem splitAfter_any (s : ByteArray) (w : World) :
  Calls Tryz.prog 141 #[.string s, .string ⟨#[10]⟩] w fun e w' => e = .returned (.func (.func 185) #[] #[.pointer (some ⟨w.heap.size + 1, 0, none⟩), .pointer (some ⟨w.heap.size, 0, none⟩), .pointer (some ⟨w.heap.size + 2, 0, none⟩)]) ∧
   ((w.alloc (.cells #[.string s] 9)).alloc (.cells #[.string ⟨#[10]⟩] 9)).alloc (.cells #[.int .i64 1] 3) = w' := by
 go_enter Tryz.func141, Tryz.ntmps141
 go_wp2_with fail
 refine (splitSeq_any _ _ _ _).mono ?_
 rintro e w1 ⟨rfl, hw⟩
 go_wp2_with fail
 go_ret
 exact ⟨rfl, hw⟩
end Go.Proofs.YtnegfigaiomehaaGreatDoor.Ck
end
section
namespace Go.Proofs.YtnegfigaiomehaaGreatDoor.Ck
open Go.RowKit Go.Lib Go.Shelf Go.Maps Go.Proofs.YtnegfigaiomehaaGreatDoorW.PrintWords Go.Proofs.YtnegfigaiomehaaGreatDoorW.PrintLast Go.Proofs.YtnegfigaiomehaaGreatDoorW.PrintMore Go.Proofs.YtnegfigaiomehaaGreatDoor.U Go.Proofs.YtnegfigaiomehaaGreatDoor.P Go.Proofs.YtnegfigaiomehaaGreatDoor.PTh Go.Proofs.YtnegfigaiomehaaGreatDoor.MapV Go.Proofs.YtnegfigaiomehaaGreatDoor.Rng
theorem run_append_str_hat {P : Program} (w : World) (base : Nat) (t u ty e : TypeId) (i : TypeInfo) (ht : P.underlying t = some (.slice e)) (hu : P.underlying u = some .string) (hi : P.info? e = some i) (hz : i.zero = some (.int .u8 0))
  (hsize : i.size = 1) (hby : i.bytes = 1) (v : Value) (n : Nat) (xs : List Value) (hown : w.ownsRow base e 1 v n xs) (s : ByteArray)
  (h63 : n + s.size ≤ maxLen) (hbytes : n + s.size ≤ 140737488355328) (hbase : base ≤ w.heap.size) :
  ∃ v' w', (Builtin.append_ #[t, u] ty #[v, .string s]).run P w = .ok v' w' ∧ w'.ownsRow base e 1 v' (n + s.size) (xs ++ Lib.strCells s) ∧ w.grownBy w' v.ownBlock ∧ Fresh w.heap.size v v' := by
 obtain ⟨v', w', hr, h1, h2, h3⟩ := Lib.run_append_own_string (P := P) w base t u ty e i ht hu hi hz hsize hby v n xs hown s h63 hbytes hbase
 refine ⟨v', w', hr, h1, h2, ?_⟩
 have hxl : xs.length = n := by simpa using hown.1
 have hsmall : n + s.size ≤ 9223372036854775807 := by omega
 rcases hown.2 with ⟨rfl, rfl⟩ | ⟨g, cap, cur, rfl, hbg, hg, hnc, hcm, hcs, htake⟩
 ·have hx : xs = [] := List.eq_nil_of_length_eq_zero hxl
  subst hx
  obtain ⟨v2, w2, hr2, k1, _, _⟩ := Lib.run_append_own_string (P := P) w w.heap.size t u ty e i ht hu hi hz hsize hby (.slice none 0 0) 0 [] (World.ownsRow_nil w _ e 1) s h63 hbytes (Nat.le_refl _)
  rw [hr] at hr2
  injection hr2 with e1 e2
  subst e1
  cases hb : v'.ownBlock with
  | none => exact .inl (hb.trans rfl)
  | some b => exact .inr ⟨b, hb, own_base k1 b hb⟩
 ·by_cases hroom : n + s.size ≤ cap
  ·have hcs' : cur.size = cap := by simpa using hcs
   have hr2 := Lib.run_append_room_string (P := P) w t u ty e i ht hu hi hsize g n cap cur hg s hroom (by omega)
   rw [hr] at hr2
   injection hr2 with e1 e2
   subst e1
   exact .inl rfl
  ·have holds : ∀ j u, xs[j]? = some u → w.cell? ((⟨g, 0, none⟩ : Addr).add j) = some u := hown.cells (g := g) rfl
   have hr2 := Lib.run_append_grow_string (P := P) w t u ty e i (.int .u8 0) ht hu hi hz ⟨g, 0, none⟩ n cap xs (by rw [hsize]; simpa using hxl) holds s (by omega) (by omega) (by rw [hby]; exact growslice_fits (by omega) (by omega))
   rw [hr] at hr2
   injection hr2 with e1 e2
   subst e1
   exact .inr ⟨w.heap.size, rfl, Nat.le_refl _⟩
theorem append_text {l n : Nat} {ops : Array Oper} {rest : List Oper} {o : Oper} {a : Act} {Q : Exit → Act → World → Prop} {W : World} (base : Nat) (hgd : o.guard = none) (x y : Operand)
  (ho : o.op = .call { callee := .builtin .append, args := #[x, y], argTypes := #[37, 9] })
  (v : Value) (out p : Txt) (hx : a.eval x = v) (hy : a.eval y = .string (B p)) (hown : W.ownsRow base 5 1 v out.length (bcells out)) (hl : out.length + p.length ≤ 1000000) (hbase : base ≤ W.heap.size)
  (h : ∀ v' w', w'.ownsRow base 5 1 v' (out ++ p).length (bcells (out ++ p)) → W.grownBy w' v.ownBlock → Fresh W.heap.size v v' → wpListIn (Fence.wide.inRound l) n Tryz.prog ops Q rest (a.put o.dst v') w') :
  wpListIn (Fence.wide.inRound l) n Tryz.prog ops Q (o :: rest) a W := by
 refine wpListIn_plain hgd fun K hK => ?_
 obtain ⟨i0, hi, hz0, hz1, hz2⟩ := info_parts infoU8
 have hsz : (B p).size = p.length := size_B p
 obtain ⟨v', w', hr, h1, h2, h3⟩ := run_append_str_hat (P := Tryz.prog) W base 37 9 o.type 5 i0 Tryz.underlying37 Tryz.underlying9 hi hz0 hz1 hz2 v out.length (bcells out) hown (B p) (by rw [hsz]; unfold maxLen; omega) (by rw [hsz]; omega) hbase
 have hc : bcells out ++ Lib.strCells (B p) = bcells (out ++ p) := by rw [bcells_append]; congr 1
 rw [hc, hsz, ← List.length_append] at h1
 unfold Oper.wpIn
 refine ⟨?_, ?_⟩
 ·simp [Oper.about, ho, resolve, Target.leads, Sem.run_pure]
 ·rw [Oper.semAt_plain _ _ _ (by rw [ho]; intro c hc'; cases hc')]
  simp [execOp, ho, resolve, invoke, builtin, hx, hy, hr, Result.andThen]
  exact hK _ _ (h v' w' h1 h2 h3)
end Go.Proofs.YtnegfigaiomehaaGreatDoor.Ck
end
section
namespace Go.Proofs.YtnegfigaiomehaaGreatDoor.Ck
open Go.RowKit Go.Lib Go.Shelf Go.Maps Go.Proofs.YtnegfigaiomehaaGreatDoorW.PrintWords Go.Proofs.YtnegfigaiomehaaGreatDoorW.PrintLast Go.Proofs.YtnegfigaiomehaaGreatDoorW.PrintMore Go.Proofs.YtnegfigaiomehaaGreatDoor.U Go.Proofs.YtnegfigaiomehaaGreatDoor.P Go.Proofs.YtnegfigaiomehaaGreatDoor.PTh Go.Proofs.YtnegfigaiomehaaGreatDoor.MapV Go.Proofs.YtnegfigaiomehaaGreatDoor.Rng
structure Base (K : CK) (w : World) (N : Nat) (vf0 vo0 : Value) : Prop where
 kb : K.w0.heap.size < w.heap.size
 n : w.heap.size + 6 ≤ N
 f : ∀ k, vf0.ownBlock = some k → k < w.heap.size
 o : ∀ k, vo0.ownBlock = some k → k < w.heap.size
theorem Base.mk' {K : CK} {w : World} {s : PS} {vf vo : Value} {N : Nat} (h : PSt K w s vf vo) (hn : w.heap.size + 6 ≤ N) : Base K w N vf vo :=
 ⟨(Array.getElem?_eq_some_iff.1 h.at_.h).1, hn, fun k e => own_lt h.f k e, fun k e => own_lt h.o k e⟩
section
variable {K : CK} {w : World} {N q deep : Nat} {vf0 vo0 : Value} {W W' W3 : World} {s s3 : PS} {vf vo vf3 vo3 : Value}
theorem PInv.xp (h : PInv K w N q deep vf0 vo0 W s vf vo) (hB : Base K w N vf0 vo0) {k : Nat} (hx : XP K vf vo k) : (XP K vf0 vo0 k ∧ k < w.heap.size) ∨ N ≤ k := by
 rcases hx with rfl | hx | hx
 ·exact .inl ⟨.inl rfl, hB.kb⟩
 ·rcases h.ff with e | ⟨b, e, hb⟩
  ·rw [e] at hx; exact .inl ⟨.inr (.inl hx), hB.f k hx⟩
  ·rw [e] at hx; injection hx with hx; subst hx; exact .inr hb
 ·rcases h.fo with e | ⟨b, e, hb⟩
  ·rw [e] at hx; exact .inl ⟨.inr (.inr hx), hB.o k hx⟩
  ·rw [e] at hx; injection hx with hx; subst hx; exact .inr hb
theorem PInv.own (h : PInv K w N q deep vf0 vo0 W s vf vo) (hB : Base K w N vf0 vo0) {row : Option Nat} (hg : W.grownBy W' row) (hr : ∀ r, row = some r → N ≤ r ∧ ∃ o : Obj, W.heap[r]? = some o ∧ o.isCells = false) : PInv K w N q deep vf0 vo0 W' s vf vo := by
 have hne : ∀ (k : Nat) (cs : Array Value) (t : TypeId), W.heap[k]? = some (Obj.cells cs t (0, 0)) → W'.heap[k]? = W.heap[k]? := fun k cs t e => hg.block k (Array.getElem?_eq_some_iff.1 e).1 (fun er => by
  obtain ⟨_, o, ho, hc⟩ := hr k er.symm
  rw [e] at ho; injection ho with ho; subst ho; simp [Obj.isCells] at hc)
 have hlt : ∀ k, k < w.heap.size → W'.heap[k]? = W.heap[k]? := fun k hk => hg.block k (Nat.lt_of_lt_of_le hk h.mu.size) (fun er => by have := (hr k er.symm).1; have := hB.n; omega)
 refine h.stay ⟨hg.os, hg.tape, hg.output, hg.size, fun k hk => hlt k (Nat.lt_trans hk hB.kb)⟩ (fun _ => trivial) (fun k hk => ?_) hlt
 rcases hk with hk | rfl | rfl | rfl
 ·obtain ⟨cs, t, e⟩ := XP.cells h.st hk; exact hne _ _ _ e
 ·exact hne _ _ _ h.hc
 ·exact hne _ _ _ h.ho
 ·exact hne _ _ _ h.hd
theorem PInv.other (h : PInv K w N q deep vf0 vo0 W s vf vo) (hB : Base K w N vf0 vo0) (hq : q = w.heap.size) (x : Nat) (hx1 : w.heap.size + 3 ≤ x) (hx2 : x < N) (j : Nat) (v : Value) : PInv K w N q deep vf0 vo0 (W.setCell ⟨x, j, none⟩ v) s vf vo := by
 have hne : ∀ k, k ≠ x → (W.setCell ⟨x, j, none⟩ v).heap[k]? = W.heap[k]? := fun k hk => Below.heap_setCell _ _ _ _ hk
 refine h.stay ⟨rfl, rfl, rfl, by simp, fun k hk => hne k (by have := hB.kb; omega)⟩ (fun _ => trivial) (fun k hk => ?_) (fun k hk => hne k (by omega))
 rcases hk with hk | rfl | rfl | rfl
 ·rcases h.xp hB hk with hk | hk
  ·exact hne _ (by omega)
  ·exact hne _ (by omega)
 ·exact hne _ (by omega)
 ·exact hne _ (by omega)
 ·exact hne _ (by omega)
theorem typed_ne {k : Nat} {cs cs' : Array Value} {t t' : TypeId} {fr fr' : Nat × Nat} (h : W.heap[k]? = some (.cells cs t fr)) (h' : W.heap[k]? = some (.cells cs' t' fr')) : t = t' := by
 rw [h] at h'; injection h' with h'; injection h'
theorem PSt.not_xp (h : PSt K W s vf vo) {k : Nat} {cs : Array Value} {t : TypeId} (hk : W.heap[k]? = some (.cells cs t (0, 0))) (h1 : t ≠ 108) (h2 : t ≠ 9) (h3 : t ≠ 5) : ¬ XP K vf vo k := by
 rintro (rfl | hx | hx)
 ·exact h1 (typed_ne hk h.at_.h)
 ·obtain ⟨cs', e⟩ := own_typed h.f k hx; exact h2 (typed_ne hk e)
 ·obtain ⟨cs', e⟩ := own_typed h.o k hx; exact h3 (typed_ne hk e)
theorem PInv.step (h : PInv K w N q deep vf0 vo0 W s vf vo) (hB : Base K w N vf0 vo0) (hq : q = w.heap.size) (hS : PSt K W3 s3 vf3 vo3) (hM : Mut (XP K vf vo) W W3) (ff : Fresh W.heap.size vf vf3) (fo : Fresh W.heap.size vo vo3) (hN : N ≤ W.heap.size) :
  PInv K w N q deep vf0 vo0 (W3.setCell ⟨q + 1, 0, none⟩ vo3) s3 vf3 vo3 := by
 have n0 := h.st.not_xp h.hc (by decide) (by decide) (by decide)
 have n1 := h.st.not_xp h.ho (by decide) (by decide) (by decide)
 have n2 := h.st.not_xp h.hd (by decide) (by decide) (by decide)
 have e0 := (hM.same q (Array.getElem?_eq_some_iff.1 h.hc).1 n0).trans h.hc
 have e1 := (hM.same (q + 1) (Array.getElem?_eq_some_iff.1 h.ho).1 n1).trans h.ho
 have e2 := (hM.same (q + 2) (Array.getElem?_eq_some_iff.1 h.hd).1 n2).trans h.hd
 have m1 := hS.not_xp e1 (by decide) (by decide) (by decide)
 have hne : ∀ k, k ≠ q + 1 → (W3.setCell ⟨q + 1, 0, none⟩ vo3).heap[k]? = W3.heap[k]? := fun k hk => Below.heap_setCell _ _ _ _ hk
 refine ⟨hS.move ⟨rfl, rfl, rfl, by simp, fun k hk => hne k (by have := hB.kb; omega)⟩ (fun k hk => hne k (fun e => m1 (e ▸ hk))), (hne _ (by omega)).trans e0, blk_put e1 0 vo3 rfl, (hne _ (by omega)).trans e2, ?_, Fresh.trans h.ff ff hN, Fresh.trans h.fo fo hN⟩
 refine Mut.set (h.mu.trans hM (fun i hi hx => ?_)) _ _ (fun hh => absurd hh (by show ¬ q + 1 < _; omega))
 rcases h.xp hB hx with hx | hx
 ·exact hx.1
 ·have := hB.n; omega
theorem PInv.keeps (h : PInv K w N q deep vf0 vo0 W s vf vo) (hM : Mut (XP K vf vo) W W3) (v : Value) : KeepsFrom N W (W3.setCell ⟨q + 1, 0, none⟩ v) :=
 (hM.keeps (fun k hk => XP.cells h.st hk)).trans ((KeepsOthers.setCell _ _ _).from _)
theorem PInv.kept3 (h : PInv K w N q deep vf0 vo0 W s vf vo) (hB : Base K w N vf0 vo0) (hq : q = w.heap.size) (hM : Mut (XP K vf vo) W W3) (hN : N ≤ W.heap.size) (x : Nat) (hx1 : w.heap.size + 3 ≤ x) (hx2 : x + 2 < N) (v : Value) : Kept3 x W (W3.setCell ⟨q + 1, 0, none⟩ v) := by
 have hk : ∀ k, w.heap.size + 3 ≤ k → k < N → (W3.setCell ⟨q + 1, 0, none⟩ v).heap[k]? = W.heap[k]? := fun k h1 h2 => by
  refine (Below.heap_setCell _ _ _ _ (by show k ≠ q + 1; omega)).trans (hM.same k (by omega) (fun hx => ?_))
  rcases h.xp hB hx with hx | hx <;> omega
 exact ⟨hk _ (by omega) (by omega), hk _ (by omega) (by omega), hk _ (by omega) (by omega)⟩
theorem PSt.outs {out3 : Txt} (h : PSt K W s vf vo) (hown : W3.ownsRow (K.w0.heap.size + 1) 5 1 vo3 out3.length (bcells out3)) (hg : W.grownBy W3 vo.ownBlock) (hl : out3.length ≤ 65536) : PSt K W3 { s with out := out3 } vf vo3 := by
 have hlt := (Array.getElem?_eq_some_iff.1 h.at_.h).1
 refine ⟨⟨(hg.block _ hlt (fun e => by have := own_base h.o _ e.symm; omega)).trans h.at_.h, h.at_.b.trans ⟨hg.os, hg.tape, hg.output, hg.size, fun k hk => hg.block k (by omega) (fun e => by have := own_base h.o _ e.symm; omega)⟩⟩, own_move h.f (fun k e => hg.block k (own_lt h.f k e) (fun e2 => h.rows e e2.symm)), hown, hl, h.lm, h.lf, h.lt⟩
theorem Mut.out (h : PSt K W s vf vo) (hg : W.grownBy W3 vo.ownBlock) : Mut (XP K vf vo) W W3 := (Mut.refl _ _).grown hg (fun k e _ => .inr (.inr e))
theorem PInv.box (h : PInv K w N q deep vf0 vo0 W s vf vo) (hM : Mut (XP K vf vo) W W3) : W3.heap[q + 1]? = some (.cells #[vo] 37 (0, 0)) :=
 (hM.same (q + 1) (Array.getElem?_eq_some_iff.1 h.ho).1 (h.st.not_xp h.ho (by decide) (by decide) (by decide))).trans h.ho
theorem PInv.boxc (h : PInv K w N q deep vf0 vo0 W s vf vo) (hM : Mut (XP K vf vo) W W3) : W3.heap[q]? = some (.cells #[at0 K.w0.heap.size] 106 (0, 0)) :=
 (hM.same q (Array.getElem?_eq_some_iff.1 h.hc).1 (h.st.not_xp h.hc (by decide) (by decide) (by decide))).trans h.hc
theorem PInv.boxd (h : PInv K w N q deep vf0 vo0 W s vf vo) (hM : Mut (XP K vf vo) W W3) : W3.heap[q + 2]? = some (.cells #[.int .i64 (deep : Int)] 3 (0, 0)) :=
 (hM.same (q + 2) (Array.getElem?_eq_some_iff.1 h.hd).1 (h.st.not_xp h.hd (by decide) (by decide) (by decide))).trans h.hd
theorem PInv.mut (h : PInv K w N q deep vf0 vo0 W s vf vo) (hB : Base K w N vf0 vo0) (hM : Mut (XP K vf vo) W W3) : Mut (XP K vf0 vo0) w W3 :=
 h.mu.trans hM (fun i hi hx => by
  rcases h.xp hB hx with hx | hx
  ·exact hx.1
  ·have := hB.n; omega)
end
theorem row_reads {w : World} {base : Nat} {v : Value} {l : List Txt} (h : w.ownsRow base 9 1 v l.length (strs l)) : ∃ A c, v = .slice A l.length c ∧ l.length ≤ c ∧ Kd.C Kd.string w A l.length (l.map B) := by
 have he : encs Value.string (l.map B) = strs l := by
  induction l with
  | nil => rfl
  | cons x l ih => simp [encs, strs]
 have h' : w.ownsRow base 9 1 v (l.map B).length (encs Value.string (l.map B)) := by rw [he, List.length_map]; exact h
 have := Kd.R_reads (d := Kd.string) (e := 9) (Kd.R_of_own (ok := fun _ => True) (h1 := fun _ => rfl) h' (fun _ _ => trivial))
 rw [List.length_map] at this
 exact this
structure Mid (K : CK) (W : World) (s : PS) (vf vo : Value) : Prop where
 h : W.heap[K.w0.heap.size]? = some (.cells #[.slice K.Aa K.args.length K.ca, .slice K.Ad K.v.decl.length K.cd, .slice K.Af K.v.fs.length K.cf, vf, .int .i64 ((s.many : Int) + 1)] 108 (0, 0))
 b : Below K.w0.heap.size K.w0 W
 f : W.ownsRow (K.w0.heap.size + 1) 9 1 vf s.found.length (strs s.found)
 o : W.ownsRow (K.w0.heap.size + 1) 5 1 vo s.out.length (bcells s.out)
theorem Mid.of {K : CK} {W : World} {s : PS} {vf vo : Value} (h : PSt K W s vf vo) : Mid K (W.setCell ⟨K.w0.heap.size, 4, none⟩ (.int .i64 ((s.many : Int) + 1))) s vf vo :=
 ⟨blk_put h.at_.h 4 _ rfl, h.at_.b.setCell (p := ⟨K.w0.heap.size, 4, none⟩) (Nat.le_refl _) _, own_move h.f (fun k e => Below.heap_setCell _ _ _ _ (by have := own_base h.f k e; show k ≠ K.w0.heap.size; omega)), own_move h.o (fun k e => Below.heap_setCell _ _ _ _ (by have := own_base h.o k e; show k ≠ K.w0.heap.size; omega))⟩
theorem Mid.below {K : CK} {W W' : World} {s : PS} {vf vo : Value} (h : Mid K W s vf vo) (hb : Below W.heap.size W W') : Mid K W' s vf vo :=
 ⟨(hb.block _ (Array.getElem?_eq_some_iff.1 h.h).1).trans h.h, h.b.trans (hb.mono h.b.size), own_move h.f (fun k e => hb.block k (own_lt h.f k e)), own_move h.o (fun k e => hb.block k (own_lt h.o k e))⟩
theorem Mid.pst {K : CK} {W W0 : World} {s : PS} {vf vo : Value} (h : Mid K W s vf vo) (h0 : PSt K W0 s vf vo) (hm : s.many + 1 ≤ 1000) : PSt K W ⟨s.out, s.found, s.many + 1⟩ vf vo :=
 ⟨⟨h.h, h.b⟩, h.f, h.o, h0.lo, hm, by have := h0.lf; show s.found.length ≤ s.many + 1; omega, h0.lt⟩
theorem Mid.found {K : CK} {W W0 W8 : World} {s : PS} {vf vo v7 : Value} {nm : Txt} (h : Mid K W s vf vo) (h0 : PSt K W0 s vf vo) (hm : s.many + 1 ≤ 1000) (hn : nm.length ≤ 1000)
  (ho : W8.ownsRow (K.w0.heap.size + 1) 9 1 v7 (s.found.length + 1) (strs s.found ++ [.string (B nm)])) (hg : W.grownBy W8 vf.ownBlock) :
  PSt K (W8.setCell ⟨K.w0.heap.size, 3, none⟩ v7) ⟨s.out, s.found ++ [nm], s.many + 1⟩ v7 vo ∧ Mut (XP K vf vo) W (W8.setCell ⟨K.w0.heap.size, 3, none⟩ v7) ∧
   W8.heap[K.w0.heap.size]? = some (.cells #[.slice K.Aa K.args.length K.ca, .slice K.Ad K.v.decl.length K.cd, .slice K.Af K.v.fs.length K.cf, vf, .int .i64 ((s.many : Int) + 1)] 108 (0, 0)) := by
 have hlt := (Array.getElem?_eq_some_iff.1 h.h).1
 have hk : W8.heap[K.w0.heap.size]? = W.heap[K.w0.heap.size]? := hg.block _ hlt (fun e => by have := own_base h.f _ e.symm; omega)
 have hrows : ∀ k, vo.ownBlock = some k → some k ≠ vf.ownBlock := fun k e e2 => by
  obtain ⟨cs, e1⟩ := own_typed h.f k e2.symm
  obtain ⟨cs2, e2⟩ := own_typed h.o k e
  rw [e1] at e2
  injection e2 with e2
  injection e2 with _ e2 _
  exact absurd e2 (by decide)
 have hne : ∀ (W : World) (k : Nat) (v : Value), k ≠ K.w0.heap.size → (W.setCell ⟨K.w0.heap.size, 3, none⟩ v).heap[k]? = W.heap[k]? := fun W k v hk => Below.heap_setCell _ _ _ _ hk
 refine ⟨⟨⟨blk_put (hk.trans h.h) 3 v7 rfl, ?_⟩, ?_, ?_, h0.lo, hm, ?_, ?_⟩, ?_, hk.trans h.h⟩
 ·exact (h.b.trans ⟨hg.os, hg.tape, hg.output, hg.size, fun k hk => hg.block k (by omega) (fun e => by have := own_base h.f _ e.symm; omega)⟩).setCell (p := ⟨K.w0.heap.size, 3, none⟩) (Nat.le_refl _) _
 ·have : strs (s.found ++ [nm]) = strs s.found ++ [.string (B nm)] := List.map_append ..
  rw [this, List.length_append]
  exact own_move ho (fun k e => hne _ _ _ (by have := own_base ho k e; omega))
 ·exact own_move (own_move h.o (fun k e => hg.block k (own_lt h.o k e) (hrows k e))) (fun k e => hne _ _ _ (by have := own_base h.o k e; omega))
 ·have := h0.lf; show (s.found ++ [nm]).length ≤ s.many + 1; rw [List.length_append, List.length_singleton]; omega
 ·intro t ht
  rcases List.mem_append.1 ht with ht | ht
  ·exact h0.lt t ht
  ·rw [List.mem_singleton.1 ht]; exact hn
 ·exact ((Mut.refl _ _).grown hg (fun k e _ => .inr (.inl e))).set _ _ (fun _ => .inl rfl)
theorem splitK_mem (c : UInt8) (k : Nat) (hk : k ≤ 1) : ∀ (l p : Txt), p ∈ splitK c k l → p.length ≤ l.length
 | [], p, h => by simp [P.splitK] at h; simp [h]
 | b :: l, p, h => by
  unfold P.splitK at h
  split at h
  ·rcases List.mem_cons.1 h with rfl | h
   ·rw [List.length_take, List.length_cons]; simp; omega
   ·have := splitK_mem c k hk l p h; rw [List.length_cons]; omega
  ·split at h
   ·rw [List.mem_singleton.1 h]; simp
   ·rename_i p' ps he
    rcases List.mem_cons.1 h with rfl | h
    ·have := splitK_mem c k hk l p' (by rw [he]; simp)
     rw [List.length_cons, List.length_cons]; omega
    ·have := splitK_mem c k hk l p (by rw [he]; exact List.mem_cons_of_mem _ h)
     rw [List.length_cons]; omega
end Go.Proofs.YtnegfigaiomehaaGreatDoor.Ck
end
section
namespace Go.Proofs.YtnegfigaiomehaaGreatDoor.Ck
open Go.RowKit Go.Lib Go.Shelf Go.Maps Go.Proofs.YtnegfigaiomehaaGreatDoorW.PrintWords Go.Proofs.YtnegfigaiomehaaGreatDoorW.PrintLast Go.Proofs.YtnegfigaiomehaaGreatDoorW.PrintMore Go.Proofs.YtnegfigaiomehaaGreatDoor.U Go.Proofs.YtnegfigaiomehaaGreatDoor.P Go.Proofs.YtnegfigaiomehaaGreatDoor.PTh Go.Proofs.YtnegfigaiomehaaGreatDoor.MapV Go.Proofs.YtnegfigaiomehaaGreatDoor.Rng
attribute [local go_sem] Oper.semAt_some
def PutsAt (K : CK) (k : Nat) : Prop := ∀ (deep : Nat), deep + k = 11 → ∀ (w : World) (s : PS) (vf vo : Value) (Ab : Option Addr) (cb : Nat) (b : Txt), PSt K w s vf vo → (Kd.int .u8).C w Ab b.length (ints b) → b.length ≤ 100000 →
 Calls Tryz.prog 117 #[at0 K.w0.heap.size, vo, .slice Ab b.length cb, .int .i64 (deep : Int)] w (Puts K (putsE K.v.fs k s b) w vf vo)
set_option maxRecDepth 100000 in
set_option maxHeartbeats 8000000 in
theorem boxes (w : World) (o1 o2 o3 : Obj) : Below w.heap.size w (((w.alloc o1).alloc o2).alloc o3) ∧ (((w.alloc o1).alloc o2).alloc o3).heap.size = w.heap.size + 3 ∧ (((w.alloc o1).alloc o2).alloc o3).heap[w.heap.size]? = some o1 ∧ (((w.alloc o1).alloc o2).alloc o3).heap[w.heap.size + 1]? = some o2 ∧ (((w.alloc o1).alloc o2).alloc o3).heap[w.heap.size + 2]? = some o3 := by
 refine ⟨(((Below.refl _ _).alloc (Nat.le_refl _) _).alloc (by simp) _).alloc (by simp; omega) _, by simp, ?_, ?_, ?_⟩
 ·exact (Below.heap_alloc _ _ _ (by simp; omega)).trans ((Below.heap_alloc _ _ _ (by simp)).trans (heap_alloc_new w _))
 ·have := heap_alloc_new (w.alloc o1) o2
  rw [World.size_alloc] at this
  exact (Below.heap_alloc _ _ _ (by simp)).trans this
 ·have := heap_alloc_new ((w.alloc o1).alloc o2) o3
  rw [World.size_alloc, World.size_alloc] at this
  exact this
set_option maxRecDepth 100000 in
set_option maxHeartbeats 16000000 in
theorem puts_any (K : CK) (hK : K.Ok) : ∀ k, PutsAt K k := by
 intro k
 induction k with
 | zero =>
  intro deep hdk w s vf vo Ab cb b hS hC hbl
  obtain rfl : deep = 11 := by omega
  obtain ⟨Ao, co, rfl, _, _⟩ := own_reads hS.o
  have hb1 := (boxes w (.cells #[at0 K.w0.heap.size] 106) (.cells #[.slice Ao s.out.length co] 37) (.cells #[.int .i64 11] 3)).1
  have hM := Lib.hid (Mut.of_below (X := XP K vf (.slice Ao s.out.length co)) hb1)
  clear hb1
  generalize K.w0.heap.size = kb at *
  refine calls_of_wpAt Tryz.func117 rfl ?_
  simp only [Tryz.ntmps117, List.size_toArray, List.length_cons, List.length_nil, Nat.reduceAdd, Nat.reduceSub, Array.replicate_succ, Array.replicate_zero, List.push_toArray, List.append_toArray, List.nil_append, List.cons_append]
  refine wpAt_seq_k fun K0 hK0 => ?_
  go_wp2_with fail
  refine wpAt_seq_k fun K1 hK1 => ?_
  go_wp2_with fail
  refine (need_no _).mono ?_
  rintro e w2 ⟨rfl, rfl⟩
  exact ⟨hM.out, rfl⟩
 | succ k ih =>
  intro deep hdk w s vf vo Ab cb b hS hC hbl
  obtain ⟨Ao, co, rfl, _, _⟩ := own_reads hS.o
  have hIH := Lib.hid ih
  have hKH := Lib.hid hK
  obtain ⟨on, hon⟩ : ∃ n, s.out.length = n := ⟨_, rfl⟩
  have hONH := Lib.hid hon
  obtain ⟨kb, hkb⟩ : ∃ n, K.w0.heap.size = n := ⟨_, rfl⟩
  have hKB := Lib.hid hkb
  obtain ⟨q, hq⟩ : ∃ n, w.heap.size = n := ⟨_, rfl⟩
  have hQ := Lib.hid hq
  rw [hon] at hS
  rw [hkb, hon]
  obtain ⟨hb1, hz1, x1, x2, x3⟩ := boxes w (.cells #[at0 kb] 106) (.cells #[.slice Ao on co] 37) (.cells #[.int .i64 (deep : Int)] 3)
  have hS1 := Lib.hid (hS.below hb1)
  have hM1 := Lib.hid (Mut.of_below (X := XP K vf (.slice Ao on co)) hb1)
  have hcv := Kd.C_string (P := Tryz.prog) (src := 37) (dst := 9) (e := 5) (c := cb) Tryz.underlying37 Tryz.underlying5 Tryz.underlying9 (Kd.C_below hC hb1)
  rw [str_ints] at hcv
  rw [hq] at hz1 x1 x2 x3
  have hX1 := Lib.hid x1
  have hX2 := Lib.hid x2
  have hX3 := Lib.hid x3
  have d7 := (cell_of_heap (j := 0) x3).trans rfl
  have hSH := Lib.hid hS
  have hd10 : decide ((deep : Int) ≤ 10) = true := by rw [decide_eq_true_iff]; omega
  have hZ1 := Lib.hid hz1
  clear ih hK hS hC x1 x2 x3 hb1 hon hkb hz1
  refine calls_of_wpAt Tryz.func117 rfl ?_
  simp only [Tryz.ntmps117, List.size_toArray, List.length_cons, List.length_nil, Nat.reduceAdd, Nat.reduceSub, Array.replicate_succ, Array.replicate_zero, List.push_toArray, List.append_toArray, List.nil_append, List.cons_append]
  refine wpAt_seq_k fun K0 hK0 => ?_
  go_wp2_with fail
  clear hq
  generalize (((w.alloc (.cells #[at0 kb] 106)).alloc (.cells #[.slice Ao on co] 37)).alloc (.cells #[.int .i64 (deep : Int)] 3)) = W1 at *
  have d7b : W1.cell? ⟨q + 1 + 1, 0, none⟩ = some (.int .i64 (deep : Int)) := d7
  clear d7
  refine wpAt_seq_k fun K1 hK1 => ?_
  go_wp2_with fail
  refine (need_yes _).mono ?_
  rintro e w2 ⟨rfl, rfl⟩
  go_wp2_with fail
  refine wpAt_seq ?_
  refine wpAt_seq_k fun K2 hK2 => ?_
  go_wp2_with fail
  refine (splitAfter_any (B b) W1).mono ?_
  rintro e W2 ⟨rfl, hw2⟩
  obtain ⟨hb2, hz2, y1, y2, y3⟩ := boxes W1 (.cells #[.string (B b)] 9) (.cells #[.string ⟨#[10]⟩] 9) (.cells #[.int .i64 1] 3)
  rw [hw2] at hb2 hz2 y1 y2 y3
  have hBA := Lib.hid (Base.mk' (N := W2.heap.size) hSH.out (by rw [hQ.out, hz2, hZ1.out]; omega))
  have hNN : Hid (W2.heap.size = q + 6) := by show _ = _; rw [hz2, hZ1.out]
  have hIN : Hid (PInv K w W2.heap.size q deep vf (.slice Ao on co) W2 s vf (.slice Ao on co)) :=
   ⟨hS1.out.below hb2, by rw [hKB.out]; exact (hb2.block _ (by rw [hZ1.out]; omega)).trans hX1.out, (hb2.block _ (by rw [hZ1.out]; omega)).trans hX2.out, (hb2.block _ (by rw [hZ1.out]; omega)).trans hX3.out, hM1.out.trans (Mut.of_below (X := fun _ => False) hb2) (fun _ _ h => h.elim), Fresh.refl _ _, Fresh.refl _ _⟩
  have hY1 := Lib.hid y1
  have hY2 := Lib.hid y2
  have hY3 := Lib.hid y3
  have hZ2 := Lib.hid hz2
  clear hw2 hb2 hz2 y1 y2 y3 hS1 hX1 hX2 hX3 hM1 d7b
  go_wp2_with fail
  refine wpAt_block ?_
  refine wpAt_range_strP (fn := Tryz.f117) Tryz.func117 (gf := 185) (lb := #[.pointer (some ⟨W1.heap.size + 1, 0, none⟩), .pointer (some ⟨W1.heap.size, 0, none⟩), .pointer (some ⟨W1.heap.size + 2, 0, none⟩)]) rfl (enters_of Tryz.func185 (by kernel_rfl) rfl)
   (split_seqP 10 1 (by omega) W1.heap.size b (by omega) W2 ?hlt ?i0 ?i1 ?i2) (Below.refl _ _) ?hbw
   (fun pre W => ∃ (ls : List Txt) (s' : PS) (vf' vo' : Value), pre = ls.map B ∧ ls <+: splitK 10 1 b ∧ linesP K.v.fs (putsE K.v.fs k) ls s = some s' ∧ PInv K w W2.heap.size q deep vf (.slice Ao on co) W s' vf' vo' ∧ W2.heap.size ≤ W.heap.size)
   (fun c pre W => False)
   (fun ch W => ch = flV ∧ linesP K.v.fs (putsE K.v.fs k) (splitK 10 1 b) s = none ∧ Mut (XP K vf (.slice Ao on co)) w W)
   ?hI ?hIx ?hIs ?h0 ?a1 ?assign ?body ?done ?stop ?pan
  case i0 => exact hY1.out
  case i1 => exact hY2.out
  case i2 => exact hY3.out
  case hlt => rw [hZ2.out]; omega
  case hbw => rw [hZ2.out]; omega
  case hI =>
   rintro pre W W' row ⟨ls, s', vf', vo', h1, h2, h3, h4, h5⟩ hg hr
   exact ⟨ls, s', vf', vo', h1, h2, h3, h4.own hBA.out hg hr, Nat.le_trans h5 hg.size⟩
  case hIx => exact fun c s A B row h => h.elim
  case hIs =>
   rintro pre W u ⟨ls, s', vf', vo', h1, h2, h3, h4, h5⟩
   exact ⟨ls, s', vf', vo', h1, h2, h3, h4.other hBA.out hQ.out.symm _ (by rw [hZ1.out, hQ.out]; exact Nat.le_refl _) (by rw [hZ2.out]; omega) 0 u, by simpa using h5⟩
  case h0 => exact ⟨[], s, _, _, rfl, List.nil_prefix, rfl, hIN.out, Nat.le_refl _⟩
  case assign =>
   intro l' x W K0 hK0
   simp only [List.zip_toArray, List.zip_cons_cons, List.zip_nil_right, List.foldl_toArray, List.foldl_cons, List.foldl_nil, List.setIfInBounds_toArray, List.set_cons_succ, List.set_cons_zero]
   gi_wp2
   exact hK0
  case stop => exact fun D c pre W _ _ h _ => h.elim
  case pan =>
   rintro D ch W hD ⟨rfl, hno, hM⟩ hdf
   refine ⟨by simp, .inl ⟨_, _, rfl, run_takeDeferred hdf, ?_⟩⟩
   show Puts K (linesP K.v.fs (putsE K.v.fs k) (splitK 10 1 b) s) w vf _ fl _
   rw [hno]
   refine ⟨hM.grown (grownBy_putObj' _ D (.deferred none)) (fun r e hr => ?_), rfl⟩
   injection e with e
   have := hNN.out; have := hQ.out; omega
  case done =>
   rintro D W hD ⟨ls, s', vf', vo', hpl, hpre, hlin, hinv, hsz⟩ hdf
   obtain rfl : ls = splitK 10 1 b := ((List.map_inj_right (fun _ _ e => B_inj e)).1 hpl).symm
   have e5 := (cell_of_heap (j := 0) hinv.ho).trans rfl
   have hI := Lib.hid hinv
   have hDF := Lib.hid hdf
   have hL := Lib.hid hlin
   have hDn : Hid (W2.heap.size ≤ D) := hD
   obtain ⟨Av, cv, rfl, _, _⟩ := own_reads hinv.st.o
   obtain ⟨lv, hlv⟩ : ∃ n, s'.out.length = n := ⟨_, rfl⟩
   rw [hlv] at e5
   have hLV := Lib.hid hlv
   clear hinv hdf hlin hpre hpl hD hlv
   show wpAt _ _ _ _ _ _
   refine wpAt_seq_k fun K3 hK3 => ?_
   go_wp2_with fail
   refine wpAt_of_wp ?_
   go_wp2_with fail
   refine ⟨by simp, .inl ⟨_, _, rfl, run_takeDeferred hDF.out, ?_⟩⟩
   have hg := grownBy_putObj' W D (.deferred none)
   refine ⟨.slice Av lv cv, by simp [results, Tryz.f117, go_sem], ?_⟩
   show Puts K (linesP K.v.fs (putsE K.v.fs k) (splitK 10 1 b) s) w vf _ _ _
   rw [hL.out]
   have hP := hI.out.own hBA.out hg (fun r e => by injection e with e; subst e; exact ⟨hDn.out, _, hDF.out, rfl⟩)
   refine ⟨hP.mu, vf', _, rfl, by rw [← hLV.out]; exact hP.st, hP.ff.mono (by have := hNN.out; have := hQ.out; omega), ?_⟩
   have := hP.fo
   rw [hLV.out] at this
   exact this.mono (by have := hNN.out; have := hQ.out; omega)
  case body =>
   rintro l pre x W ⟨ls, s', vf', vo', rfl, hls, hlin, hinv, hsz⟩ hpx
   obtain ⟨p, rfl, hpp⟩ := map_snoc_prefix hpx
   obtain ⟨Av, cv, rfl, _, _⟩ := own_reads hinv.st.o
   have hpl : p.length ≤ 100000 := by
    have := splitK_mem 10 1 (by omega) b p (hpp.subset (by simp)); omega
   have hpl2 : (trimNL p).length ≤ p.length := by unfold trimNL; split <;> simp
   have hI := Lib.hid hinv
   have hLin := Lib.hid hlin
   have hPP := Lib.hid hpp
   have hSZ : Hid (W2.heap.size ≤ W.heap.size) := hsz
   have e4 := (cell_of_heap (j := 0) hinv.hc).trans rfl
   have e5 := (cell_of_heap (j := 0) hinv.ho).trans rfl
   have e7 : W.cell? ⟨q + 1 + 1, 0, none⟩ = some (.int .i64 (deep : Int)) := (cell_of_heap (j := 0) hinv.hd).trans rfl
   rw [hKB.out] at e4
   have hrow : W.ownsRow (kb + 1) 5 1 (.slice Av s'.out.length cv) s'.out.length (bcells s'.out) := by rw [← hKB.out]; exact hinv.st.o
   have hrowH := Lib.hid hrow
   have hol := hinv.st.lo
   have hkbW : kb + 1 ≤ W.heap.size := by
    have h1 := hBA.out.kb; have h2 := hBA.out.n; have h3 := hKB.out; have h4 := hSZ.out; omega
   clear hrow hinv hlin hpp hpx hls hsz
   gi_wp2_with fail
   refine ⟨trivial, CallsIn.inRound l (callsIn_wide.2 ((trimN_any p _ (by omega)).mono ?_))⟩
   rintro e W' ⟨rfl, rfl⟩
   gi_wp2_with fail
   refine ⟨trivial, CallsIn.inRound l (callsIn_wide.2 ((cutp_any (trimNL p) _ (by omega)).mono ?_))⟩
   rintro e W' ⟨rfl, rfl⟩
   cases hinc : kInclude.isPrefixOf (trimNL p) with
   | false =>
    have hinl : Hid (inclL p = none) := by show _ = _; rw [inclL, hinc]; rfl
    have hST : Hid (linesP K.v.fs (putsE K.v.fs k) [p] s' = if (s'.out ++ p).length ≤ 65536 then some { s' with out := s'.out ++ p } else none) := by
     show _ = _
     rw [linesP, hinl.out]; rfl
    have hBW := hKB.out
    by_cases hl3 : (s'.out ++ p).length ≤ 65536
    ·have hd : decide (((s'.out ++ p).length : Int) ≤ 65536) = true := by rw [decide_eq_true_iff]; omega
     have hST2 : Hid (linesP K.v.fs (putsE K.v.fs k) [p] s' = some { s' with out := s'.out ++ p }) := by show _ = _; rw [hST.out, if_pos hl3]
     clear hBW
     gi_wp2_with (gi_at_builtin; go_must (refine append_text (kb + 1) rfl _ _ rfl _ s'.out p rfl rfl hrowH.out (by omega) hkbW ?_; intro v3 W3 hown3 hg3 hf3; obtain ⟨A3, c3, rfl, _, _⟩ := own_reads hown3; have hM3 := Lib.hid (Mut.out hI.out.st hg3); have hx3 := hI.out.box hM3.out; have e53 := (cell_of_heap (j := 0) hx3).trans rfl; have f53 := frozen_of_heap hx3 0; rw [← hKB.out] at hown3; have hS3 := Lib.hid (hI.out.st.outs hown3 hg3 hl3); have hP3 := Lib.hid (hI.out.step hBA.out hQ.out.symm hS3.out hM3.out (Fresh.refl _ _) hf3 hSZ.out); have hk1 := Lib.hid (hI.out.keeps hM3.out (.slice A3 (s'.out ++ p).length c3)); have hk2 := Lib.hid (hI.out.kept3 hBA.out hQ.out.symm hM3.out hSZ.out W1.heap.size (by have := hZ1.out; have := hQ.out; omega) (by have := hZ2.out; omega) (.slice A3 (s'.out ++ p).length c3)); clear hown3 hg3 hf3 hx3; generalize s'.out ++ p = ob at *))
     refine ⟨trivial, CallsIn.inRound l (callsIn_wide.2 ((need_yes _).mono ?_))⟩
     rintro e W4 ⟨rfl, rfl⟩
     gi_wp2_with fail
     exact ⟨hk1.out, hk2.out, ls ++ [p], _, vf', _, by simp, hPP.out, linesP_some hLin.out hST2.out, hP3.out, by simpa using Nat.le_trans hSZ.out hM3.out.size⟩
    ·have hd : decide (((s'.out ++ p).length : Int) ≤ 65536) = false := by rw [decide_eq_false_iff_not]; omega
     have hST2 : Hid (linesP K.v.fs (putsE K.v.fs k) [p] s' = none) := by show _ = _; rw [hST.out, if_neg hl3]
     clear hBW
     gi_wp2_with (gi_at_builtin; go_must (refine append_text (kb + 1) rfl _ _ rfl _ s'.out p rfl rfl hrowH.out (by omega) hkbW ?_; intro v3 W3 hown3 hg3 hf3; obtain ⟨A3, c3, rfl, _, _⟩ := own_reads hown3; have hM3 := Lib.hid (Mut.out hI.out.st hg3); have hx3 := hI.out.box hM3.out; have e53 := (cell_of_heap (j := 0) hx3).trans rfl; have f53 := frozen_of_heap hx3 0; have hk1 := Lib.hid (hI.out.keeps hM3.out (.slice A3 (s'.out ++ p).length c3)); clear hown3 hg3 hf3 hx3; generalize s'.out ++ p = ob at *))
     refine ⟨trivial, CallsIn.inRound l (callsIn_wide.2 ((need_no _).mono ?_))⟩
     rintro e W4 ⟨rfl, rfl⟩
     exact ⟨rfl, hk1.out, rfl, linesP_none hLin.out hST2.out hPP.out, (hI.out.mut hBA.out hM3.out).set _ _ (fun hh => absurd hh (by show ¬ q + 1 < _; have := hQ.out; omega))⟩
   | true =>
    have hinl : Hid (inclL p = some ((trimNL p).drop 9)) := by show _ = _; rw [inclL, hinc]; rfl
    obtain ⟨nm, hnm⟩ : ∃ x, (trimNL p).drop 9 = x := ⟨_, rfl⟩
    rw [hnm] at hinl
    have hnl : nm.length ≤ 100000 := by rw [← hnm, List.length_drop]; omega
    have hST : Hid (linesP K.v.fs (putsE K.v.fs k) [p] s' = match findL K.v.fs nm with
      | none => none
      | some own => if rightL nm = true ∧ s'.many + 1 ≤ 1000 then putsE K.v.fs k ⟨s'.out, addF s'.found nm, s'.many + 1⟩ own else none) := by
     show _ = _
     rw [linesP, hinl.out]
     simp only
     cases findL K.v.fs nm with
     | none => rfl
     | some own =>
      simp only
      split
      ·cases putsE K.v.fs k ⟨s'.out, addF s'.found nm, s'.many + 1⟩ own with
       | none => rfl
       | some s9 => rfl
      ·rfl
    have hNM := Lib.hid hnm
    have k2 := (cell_of_heap (j := 2) hI.out.st.at_.h).trans rfl
    have k3 := (cell_of_heap (j := 3) hI.out.st.at_.h).trans rfl
    have k4 := (cell_of_heap (j := 4) hI.out.st.at_.h).trans rfl
    rw [hKB.out] at k2 k3 k4
    obtain ⟨nf, hnf⟩ : ∃ n, K.v.fs.length = n := ⟨_, rfl⟩
    have hF := Find_any K.Af K.cf K.v.fs nm W' (Kd.C_below hKH.out.rf hI.out.st.at_.b) (by have := hKH.out.nf; omega) (fun f hf => by have := hKH.out.lf f hf; omega)
    rw [hnf] at hF k2
    have hFH := Lib.hid hF
    clear hF
    gi_wp2_with fail
    refine ⟨trivial, CallsIn.inRound l (callsIn_wide.2 (hFH.out.mono ?_))⟩
    rintro e W3 ⟨hb3, hP3⟩
    have hM3 : Hid (Mut (XP K vf' (.slice Av s'.out.length cv)) W' W3) := Mut.of_below hb3
    have hS3 := Lib.hid (hI.out.st.below hb3)
    have hBx3 := Lib.hid (hI.out.box hM3.out)
    have hCx3 := Lib.hid (hI.out.boxc hM3.out)
    have hDx3 := Lib.hid (hI.out.boxd hM3.out)
    have hmid := Lib.hid (Mid.of hS3.out)
    rw [hKB.out] at hmid hCx3
    have x4 := (cell_of_heap (j := 0) hCx3.out).trans rfl
    have y4 := (cell_of_heap (j := 4) hS3.out.at_.h).trans rfl
    have z4 := frozen_of_heap hS3.out.at_.h 4
    rw [hKB.out] at y4 z4
    have hz3 : W'.heap.size ≤ W3.heap.size := hb3.size
    have hMs : Hid (Mut (XP K vf' (.slice Av s'.out.length cv)) W3 (W3.setCell ⟨kb, 4, none⟩ (.int .i64 ((s'.many : Int) + 1)))) := (Mut.refl _ _).set _ _ (fun _ => .inl hKB.out.symm)
    have hmw : IntKind.i64.wrap ((s'.many : Int) + 1) = (s'.many : Int) + 1 := by have := hI.out.st.lm; rw [IntKind.wrap_i64]; omega
    clear hb3 e4 e5 e7 k2 k3 k4
    cases hfd : findL K.v.fs nm with
    | none =>
     rw [hfd] at hP3
     obtain rfl : e = _ := hP3
     have hST2 : Hid (linesP K.v.fs (putsE K.v.fs k) [p] s' = none) := by show _ = _; rw [hST.out, hfd]
     gi_wp2_with fail
     refine ⟨trivial, ?_⟩
     gi_wp2_with fail
     refine ⟨trivial, CallsIn.inRound l (callsIn_wide.2 ((need_no _).mono ?_))⟩
     rintro e W4 ⟨rfl, rfl⟩
     have hMf := hM3.out.trans hMs.out (fun _ _ h => h)
     exact ⟨rfl, hMf.keeps (fun k hk => XP.cells hI.out.st hk), rfl, linesP_none hLin.out hST2.out hPP.out, hI.out.mut hBA.out hMf⟩
    | some own =>
     rw [hfd] at hP3
     obtain ⟨vown, rfl, hown⟩ := hP3
     have hOwn := Lib.hid hown
     have hol2 : own.length ≤ 100000 := by
      rw [findL, Option.map_eq_some_iff] at hfd
      obtain ⟨f, hf, rfl⟩ := hfd
      exact hKH.out.lf f (List.mem_of_find?_eq_some hf)
     have hST1 : Hid (linesP K.v.fs (putsE K.v.fs k) [p] s' = if rightL nm = true ∧ s'.many + 1 ≤ 1000 then putsE K.v.fs k ⟨s'.out, addF s'.found nm, s'.many + 1⟩ own else none) := by show _ = _; rw [hST.out, hfd]
     clear hown hfd
     gi_wp2_with fail
     generalize hW5 : W3.setCell ⟨kb, 4, none⟩ (.int .i64 ((s'.many : Int) + 1)) = W5 at *
     have hz5 : W5.heap.size = W3.heap.size := by rw [← hW5]; simp
     clear hW5
     refine ⟨trivial, CallsIn.inRound l (callsIn_wide.2 ((right_any nm _).mono ?_))⟩
     rintro e W6 ⟨rfl, hb6⟩
     have hmid6 := Lib.hid (hmid.out.below hb6)
     have hM6 := Lib.hid (hMs.out.trans (Mut.of_below (X := fun _ => False) hb6) (fun _ _ h => h.elim))
     have hMf := Lib.hid (hM3.out.trans hM6.out (fun _ _ h => h))
     have hBx6 := Lib.hid (hI.out.box hMf.out)
     have hCx6 := Lib.hid (hI.out.boxc hMf.out)
     have hDx6 := Lib.hid (hI.out.boxd hMf.out)
     rw [hKB.out] at hCx6
     have x6 := (cell_of_heap (j := 0) hCx6.out).trans rfl
     have y6 := (cell_of_heap (j := 4) hmid6.out.h).trans rfl
     rw [hKB.out] at y6
     clear hb6 x4 y4 z4
     cases hr : rightL nm with
     | false =>
      have hST2 : Hid (linesP K.v.fs (putsE K.v.fs k) [p] s' = none) := by show _ = _; rw [hST1.out, hr]; rfl
      gi_wp2_with fail
      refine ⟨trivial, CallsIn.inRound l (callsIn_wide.2 ((need_no _).mono ?_))⟩
      rintro e W7 ⟨rfl, rfl⟩
      exact ⟨rfl, hMf.out.keeps (fun k hk => XP.cells hI.out.st hk), rfl, linesP_none hLin.out hST2.out hPP.out, hI.out.mut hBA.out hMf.out⟩
     | true =>
      by_cases hm : s'.many + 1 ≤ 1000
      ·have hdm : decide ((s'.many : Int) + 1 ≤ 1000) = true := by rw [decide_eq_true_iff]; omega
       have hST2 : Hid (linesP K.v.fs (putsE K.v.fs k) [p] s' = putsE K.v.fs k ⟨s'.out, addF s'.found nm, s'.many + 1⟩ own) := by show _ = _; rw [hST1.out, if_pos ⟨hr, hm⟩]
       obtain ⟨Aw, cw, rfl, hlw, hCw⟩ := row_reads hmid6.out.f
       have hCt := contains_any Aw cw s'.found nm W6 hCw (by have := hI.out.st.lf; have := hI.out.st.lm; omega)
       have y3 := (cell_of_heap (j := 3) hmid6.out.h).trans rfl
       rw [hKB.out] at y3
       have hCtH := Lib.hid hCt
       have hAF : Hid (addF s'.found nm = if s'.found.contains nm = true then s'.found else s'.found ++ [nm]) := by
        show _ = _
        unfold addF
        by_cases hh : nm ∈ s'.found
        ·rw [if_pos hh, if_pos (List.contains_iff_mem.2 hh)]
        ·rw [if_neg hh, if_neg (fun h => hh (List.contains_iff_mem.1 h))]
       clear hCt hCw hlw
       gi_wp2_with fail
       refine ⟨trivial, CallsIn.inRound l (callsIn_wide.2 ((need_yes _).mono ?_))⟩
       rintro e W7 ⟨rfl, rfl⟩
       gi_wp2_with fail
       refine ⟨trivial, CallsIn.inRound l (callsIn_wide.2 (hCtH.out.mono ?_))⟩
       rintro e W7 ⟨rfl, rfl⟩
       have x5 := (cell_of_heap (j := 0) hBx6.out).trans rfl
       have x7 : W7.cell? ⟨q + 1 + 1, 0, none⟩ = some (.int .i64 (deep : Int)) := (cell_of_heap (j := 0) hDx6.out).trans rfl
       have hdw : IntKind.i64.wrap ((deep : Int) + 1) = (deep : Int) + 1 := by rw [IntKind.wrap_i64]; omega
       obtain ⟨Ab2, cb2, rfl, hlb2, _⟩ := own_reads hOwn.out
       cases hx : s'.found.contains nm with
       | true =>
        have hS7 : Hid (PSt K W7 ⟨s'.out, s'.found, s'.many + 1⟩ (.slice Aw s'.found.length cw) (.slice Av s'.out.length cv)) := hmid6.out.pst hI.out.st hm
        have hAF2 : Hid (addF s'.found nm = s'.found) := by show _ = _; rw [hAF.out, hx]; rfl
        gi_wp2_with fail
        refine ⟨trivial, CallsIn.inRound l (callsIn_wide.2 ?_)⟩
        have hOwn7 := own_move hOwn.out (w1 := W7) (fun i hi => hM6.out.same i (own_lt hOwn.out i hi) (fun hx => by
         obtain ⟨cs, t, e⟩ := XP.cells hI.out.st hx
         have h1 := (Array.getElem?_eq_some_iff.1 e).1
         have h2 := own_base hOwn.out i hi
         omega))
        obtain ⟨Ab3, cb3, he3, _, hC3⟩ := own_reads hOwn7
        injection he3 with he3 _ _
        subst he3
        have hCall := hIH.out (deep + 1) (by omega) W7 ⟨s'.out, s'.found, s'.many + 1⟩ (.slice Aw s'.found.length cw) (.slice Av s'.out.length cv) Ab2 cb2 own hS7.out hC3 hol2
        rw [hKB.out] at hCall
        refine Calls.mono hCall ?_
        rintro e W8 ⟨hM8, hP8⟩
        have hM78 := Lib.hid hM8
        have hMf8 : Hid (Mut (XP K (.slice Aw s'.found.length cw) (.slice Av s'.out.length cv)) W' W8) := hMf.out.trans hM8 (fun _ _ h => h)
        have hST3 : Hid (linesP K.v.fs (putsE K.v.fs k) [p] s' = putsE K.v.fs k ⟨s'.out, s'.found, s'.many + 1⟩ own) := by show _ = _; rw [hST2.out, hAF2.out]
        cases hpe : putsE K.v.fs k ⟨s'.out, s'.found, s'.many + 1⟩ own with
        | none =>
         rw [hpe] at hP8
         obtain rfl : e = fl := hP8
         exact ⟨rfl, hMf8.out.keeps (fun k hk => XP.cells hI.out.st hk), rfl, linesP_none hLin.out (hST3.out.trans hpe) hPP.out, hI.out.mut hBA.out hMf8.out⟩
        | some s9 =>
         rw [hpe] at hP8
         obtain ⟨vf9, vo9, rfl, hS9, hf9, ho9⟩ := hP8
         obtain ⟨A9, c9, rfl, _, _⟩ := own_reads hS9.o
         have hx9 := hI.out.box hMf8.out
         have e9 := (cell_of_heap (j := 0) hx9).trans rfl
         have f9 := frozen_of_heap hx9 0
         have hz7 : W'.heap.size ≤ W7.heap.size := hMf.out.size
         have hP9 := Lib.hid (hI.out.step hBA.out hQ.out.symm hS9 hMf8.out (Fresh.trans (Fresh.refl W'.heap.size _) hf9 hz7) (Fresh.trans (Fresh.refl W'.heap.size _) ho9 hz7) hSZ.out)
         have hk1 := Lib.hid (hI.out.keeps hMf8.out (.slice A9 s9.out.length c9))
         have hk2 := Lib.hid (hI.out.kept3 hBA.out hQ.out.symm hMf8.out hSZ.out W1.heap.size (by have := hZ1.out; have := hQ.out; omega) (by have := hZ2.out; omega) (.slice A9 s9.out.length c9))
         have hsz8 : Hid (W2.heap.size ≤ (W8.setCell ⟨q + 1, 0, none⟩ (.slice A9 s9.out.length c9)).heap.size) := by show _ ≤ _; simpa using Nat.le_trans hSZ.out hMf8.out.size
         have hL9 := Lib.hid (linesP_some hLin.out (hST3.out.trans hpe))
         clear hS9 hf9 ho9 hx9 hpe
         gi_wp2_with fail
         exact ⟨hk1.out, hk2.out, ls ++ [p], s9, vf9, _, by simp, hPP.out, hL9.out, hP9.out, hsz8.out⟩
       | false =>
        have hAF2 : Hid (addF s'.found nm = s'.found ++ [nm]) := by show _ = _; rw [hAF.out, hx]; rfl
        have hbd : Below W7.heap.size W7 W7.drew := (Below.refl _ _).drew
        have hmidd := Lib.hid (hmid6.out.below hbd)
        have hM6d := Lib.hid (hM6.out.trans (Mut.of_below (X := fun _ => False) hbd) (fun _ _ h => h.elim))
        have hMfd := Lib.hid (hMf.out.trans (Mut.of_below (X := fun _ => False) hbd) (fun _ _ h => h.elim))
        have hSd : Hid (W7.drew.cell? ⟨q, 0, none⟩ = some (at0 kb) ∧ W7.drew.cell? ⟨kb, 3, none⟩ = some (.slice Aw s'.found.length cw)) := ⟨x6, y3⟩
        have hlf := hI.out.st.lf
        have hlm := hI.out.st.lm
        have hbase : K.w0.heap.size + 1 ≤ W7.drew.heap.size := (Array.getElem?_eq_some_iff.1 hmidd.out.h).1
        have hnm1 : nm.length ≤ 1000 := by have := right_len hr; omega
        clear hbd x6 y6 y3 x5 x7
        gi_wp2_with fail
        refine RegP.regionR (fun w' => w'.cell? ⟨q, 0, none⟩ = some (at0 kb) ∧ w'.cell? ⟨kb, 3, none⟩ = some (.slice Aw s'.found.length cw)) 10 [(1, 0), (1, 1), (0, 2), (0, 3), (1, 4), (0, 5), (2, 6), (2, 7), (0, 8), (0, 9), (3, 10)] (by kernel_rfl) (by kernel_rfl) (by kernel_rfl) (by rfl) (by kernel_rfl) (by rintro ⟨_, _, h⟩; exact h) (by exact hSd.out) ?_
        generalize W7.drew = wd at *
        refine RegP.held1 (by (simp only [gA,gB,gC]); rfl) (by exact fun _ _ _ h => h) (by rfl) (by intro w' hS_; (try dsimp only at hS_); go_split_ands; go_simp; try with_reducible rfl) ?_
        try simp only [Act.put, pA,pB,pC]
        refine RegP.held1 (by (simp only [gA,gB,gC]); rfl) (by exact fun _ _ _ h => h) (by rfl) (by intro w' hS_; (try dsimp only at hS_); go_split_ands; go_simp; try with_reducible rfl) ?_
        try simp only [Act.put, pA,pB,pC]
        refine RegP.pure1 (by (simp only [gA,gB,gC]); rfl) (by exact fun _ _ _ h => h) (by rfl) (by intro w'; go_simp; try with_reducible rfl) ?_
        try simp only [Act.put, pA,pB,pC]
        refine RegP.pure1 (by (simp only [gA,gB,gC]); rfl) (by exact fun _ _ _ h => h) (by rfl) (by intro w'; go_simp; try with_reducible rfl) ?_
        try simp only [Act.put, pA,pB,pC]
        refine RegP.held1 (by (simp only [gA,gB,gC]); rfl) (by exact fun _ _ _ h => h) (by rfl) (by intro w' hS_; (try dsimp only at hS_); go_split_ands; go_simp; try with_reducible rfl) ?_
        try simp only [Act.put, pA,pB,pC]
        refine RegP.pure1 (by (simp only [gA,gB,gC]); rfl) (by exact fun _ _ _ h => h) (by rfl) (by intro w'; go_simp; try with_reducible rfl) ?_
        try simp only [Act.put, pA,pB,pC]
        refine RegP.ev1 (by (simp only [gA,gB,gC]); rfl) (fun K hK => ?_)
        go_simp
        refine hK.out _ _ ?_ (fun hHeld => ?_)
        ·(try dsimp only); exact ⟨below_cell ((Below.refl wd.heap.size wd).alloc (Nat.le_refl _) _) hSd.out.1, below_cell ((Below.refl wd.heap.size wd).alloc (Nat.le_refl _) _) hSd.out.2⟩
        clear hK K
        try simp only [Act.put, pA,pB,pC]
        refine RegP.ev1 (by (simp only [gA,gB,gC]); rfl) (fun K hK => ?_)
        refine step_append_cells (w0 := wd) (W := wd) _ rfl _ _ 23 9 (.string ⟨#[]⟩) 1 16 rfl Tryz.underlying23 infoStr rfl (by decide) (by decide) (.slice Aw s'.found.length cw) s'.found.length (strs s'.found) [.string (B nm)] rfl rfl rfl (by intro u hu; rw [List.mem_singleton.1 hu]; rfl) hmidd.out.f (Below.refl _ _) hbase (by omega) ?_
        intro v7 w8 ho7 hb7 hg7 ha7
        obtain ⟨hS9, hM9, hk8⟩ := hmidd.out.found hI.out.st hm hnm1 ho7 hg7
        have hS9H := Lib.hid hS9
        have hM9H := Lib.hid hM9
        have hFR : Hid (Fresh W'.heap.size (.slice Aw s'.found.length cw) v7) := (show Fresh wd.heap.size _ v7 from ha7).mono hMfd.out.size
        have hq8 : w8.heap[q]? = some (.cells #[at0 kb] 106 (0, 0)) := by have hh := hI.out.boxc hMfd.out; rw [hKB.out] at hh; exact (hg7.block q (Array.getElem?_eq_some_iff.1 hh).1 (fun e => by obtain ⟨cs, e1⟩ := own_typed hmidd.out.f q e.symm; exact absurd (typed_ne hh e1) (by decide))).trans hh
        rw [hKB.out] at hk8 hM9H hS9H
        obtain ⟨A7, c7, rfl⟩ : ∃ A c, v7 = .slice A (s'.found.length + 1) c := by rcases ho7.2 with ⟨_, h⟩ | ⟨g, cap, cur, e, _⟩; exact absurd h (by omega); exact ⟨_, _, e⟩
        have k3 := (cell_of_heap (j := 3) hk8).trans rfl
        have kf3 := frozen_of_heap hk8 3
        have hS8 : Hid (w8.cell? ⟨q, 0, none⟩ = some (at0 kb) ∧ w8.cell? ⟨kb, 3, none⟩ = some (.slice Aw s'.found.length cw)) := ⟨(cell_of_heap (j := 0) hq8).trans rfl, k3⟩
        clear hS9 hM9 hk8 hq8 ho7 hb7 hg7 ha7
        refine hK.out _ _ ?_ (fun hHeld => ?_)
        ·(try dsimp only); exact hS8.out
        clear hK K
        try simp only [Act.put, pA,pB,pC]
        refine RegP.pure1 (by (simp only [gA,gB,gC]); rfl) (by exact fun _ _ _ h => h) (by rfl) (by intro w'; go_simp; try with_reducible rfl) ?_
        try simp only [Act.put, pA,pB,pC]
        refine RegP.pure1 (by (simp only [gA,gB,gC]); rfl) (by exact fun _ _ _ h => h) (by rfl) (by intro w'; go_simp; try with_reducible rfl) ?_
        try simp only [Act.put, pA,pB,pC]
        refine RegP.last1 (by (simp only [gA,gB,gC]); rfl) (fun K hK => ?_)
        go_simp
        generalize w8.setCell ⟨kb, 3, none⟩ (.slice A7 (s'.found.length + 1) c7) = w9 at *
        have hMf9 := Lib.hid (hMfd.out.trans hM9H.out (fun _ _ h => h))
        have hM69 := Lib.hid (hM6d.out.trans hM9H.out (fun _ _ h => h))
        refine hK.out _ _ ?_
        clear hK K
        try simp only [Act.put, pA,pB,pC]
        refine RegP.done1 ?_
        try dsimp only
        have x5 := (cell_of_heap (j := 0) (hI.out.box hMf9.out)).trans rfl
        have x4 := (cell_of_heap (j := 0) (hI.out.boxc hMf9.out)).trans rfl
        have x7 : w9.cell? ⟨q + 1 + 1, 0, none⟩ = some (.int .i64 (deep : Int)) := (cell_of_heap (j := 0) (hI.out.boxd hMf9.out)).trans rfl
        rw [hKB.out] at x4
        gi_wp2_with fail
        refine ⟨trivial, CallsIn.inRound l (callsIn_wide.2 ?_)⟩
        have hOwn7 := own_move hOwn.out (w1 := w9) (fun i hi => hM69.out.same i (own_lt hOwn.out i hi) (fun hx => by
         obtain ⟨cs, t, e⟩ := XP.cells hI.out.st hx
         have h1 := (Array.getElem?_eq_some_iff.1 e).1
         have h2 := own_base hOwn.out i hi
         omega))
        obtain ⟨Ab3, cb3, he3, _, hC3⟩ := own_reads hOwn7
        injection he3 with he3 _ _
        subst he3
        have hCall := hIH.out (deep + 1) (by omega) w9 ⟨s'.out, (s'.found ++ [nm]), s'.many + 1⟩ (.slice A7 (s'.found.length + 1) c7) (.slice Av s'.out.length cv) Ab2 cb2 own hS9H.out hC3 hol2
        rw [hKB.out] at hCall
        refine Calls.mono hCall ?_
        rintro e W8 ⟨hM8, hP8⟩
        have hM78 := Lib.hid hM8
        have hMf8 : Hid (Mut (XP K (.slice Aw s'.found.length cw) (.slice Av s'.out.length cv)) W' W8) := hMf9.out.trans hM8 (fun i hi hx => by rcases hx with hx | hx | hx; exact .inl hx; (rcases hFR.out with e | ⟨b', e, hb'⟩; exact .inr (.inl (by rw [← e]; exact hx)); (rw [e] at hx; injection hx with hx; omega)); exact .inr (.inr hx))
        have hST3 : Hid (linesP K.v.fs (putsE K.v.fs k) [p] s' = putsE K.v.fs k ⟨s'.out, (s'.found ++ [nm]), s'.many + 1⟩ own) := by show _ = _; rw [hST2.out, hAF2.out]
        cases hpe : putsE K.v.fs k ⟨s'.out, (s'.found ++ [nm]), s'.many + 1⟩ own with
        | none =>
         rw [hpe] at hP8
         obtain rfl : e = fl := hP8
         exact ⟨rfl, hMf8.out.keeps (fun k hk => XP.cells hI.out.st hk), rfl, linesP_none hLin.out (hST3.out.trans hpe) hPP.out, hI.out.mut hBA.out hMf8.out⟩
        | some s9 =>
         rw [hpe] at hP8
         obtain ⟨vf9, vo9, rfl, hS9, hf9, ho9⟩ := hP8
         obtain ⟨A9, c9, rfl, _, _⟩ := own_reads hS9.o
         have hx9 := hI.out.box hMf8.out
         have e9 := (cell_of_heap (j := 0) hx9).trans rfl
         have f9 := frozen_of_heap hx9 0
         have hz7 : W'.heap.size ≤ w9.heap.size := hMf9.out.size
         have hP9 := Lib.hid (hI.out.step hBA.out hQ.out.symm hS9 hMf8.out (Fresh.trans hFR.out hf9 hz7) (Fresh.trans (Fresh.refl W'.heap.size _) ho9 hz7) hSZ.out)
         have hk1 := Lib.hid (hI.out.keeps hMf8.out (.slice A9 s9.out.length c9))
         have hk2 := Lib.hid (hI.out.kept3 hBA.out hQ.out.symm hMf8.out hSZ.out W1.heap.size (by have := hZ1.out; have := hQ.out; omega) (by have := hZ2.out; omega) (.slice A9 s9.out.length c9))
         have hsz8 : Hid (W2.heap.size ≤ (W8.setCell ⟨q + 1, 0, none⟩ (.slice A9 s9.out.length c9)).heap.size) := by show _ ≤ _; simpa using Nat.le_trans hSZ.out hMf8.out.size
         have hL9 := Lib.hid (linesP_some hLin.out (hST3.out.trans hpe))
         clear hS9 hf9 ho9 hx9 hpe
         gi_wp2_with fail
         exact ⟨hk1.out, hk2.out, ls ++ [p], s9, vf9, _, by simp, hPP.out, hL9.out, hP9.out, hsz8.out⟩
      ·have hdm : decide ((s'.many : Int) + 1 ≤ 1000) = false := by rw [decide_eq_false_iff_not]; omega
       have hST2 : Hid (linesP K.v.fs (putsE K.v.fs k) [p] s' = none) := by show _ = _; rw [hST1.out, if_neg (fun h => hm h.2)]
       gi_wp2_with fail
       refine ⟨trivial, CallsIn.inRound l (callsIn_wide.2 ((need_no _).mono ?_))⟩
       rintro e W7 ⟨rfl, rfl⟩
       exact ⟨rfl, hMf.out.keeps (fun k hk => XP.cells hI.out.st hk), rfl, linesP_none hLin.out hST2.out hPP.out, hI.out.mut hBA.out hMf.out⟩
end Go.Proofs.YtnegfigaiomehaaGreatDoor.Ck
end
section
namespace Go.Proofs.YtnegfigaiomehaaGreatDoor.Ck
open Go.RowKit Go.Lib Go.Shelf Go.Maps Go.Proofs.YtnegfigaiomehaaGreatDoorW.PrintWords Go.Proofs.YtnegfigaiomehaaGreatDoorW.PrintLast Go.Proofs.YtnegfigaiomehaaGreatDoorW.PrintMore Go.Proofs.YtnegfigaiomehaaGreatDoor.U Go.Proofs.YtnegfigaiomehaaGreatDoor.P Go.Proofs.YtnegfigaiomehaaGreatDoor.PTh Go.Proofs.YtnegfigaiomehaaGreatDoor.MapV
def Verb (K : CK) (r : Option (Txt × List Txt)) (w : World) (e : Ending) (w' : World) : Prop := Below K.w0.heap.size w w' ∧ match r with
 | none => e = fl
 | some bf => ∃ A c vf m, e = .returned (.slice A bf.1.length c) ∧ bf.1.length ≤ c ∧ (Kd.int .u8).C w' A bf.1.length (ints bf.1) ∧ K.At w' vf m ∧ w'.ownsRow (K.w0.heap.size + 1) 9 1 vf bf.2.length (strs bf.2) ∧ bf.2.length ≤ 1000
theorem Verb.bad {K : CK} {r : Option (Txt × List Txt)} {w w' : World} (h : r = none) (hb : Below K.w0.heap.size w w') : Verb K r w fl w' := by subst h; exact ⟨hb, rfl⟩
theorem Verb.of {K : CK} {r : Option Txt} {w w' : World} {e : Ending} (h : Gives r w e w') (hA : K.At w (.slice none 0 0) 0) : Verb K (r.map fun b => (b, [])) w e w' := by
 obtain ⟨hb, h⟩ := h
 have hb' := hb.mono hA.b.size
 refine ⟨hb', ?_⟩
 cases r with
 | none => exact h
 | some b =>
  obtain ⟨A, c, rfl, hl, hC⟩ := h
  exact ⟨A, c, _, _, rfl, hl, hC, hA.below hb, World.ownsRow_nil _ _ _ _, by simp⟩
set_option maxRecDepth 100000 in
set_option maxHeartbeats 4000000 in
theorem inc_any (K : CK) (hK : K.Ok) (w : World) (hA : K.At w (.slice none 0 0) 0) :
  Calls Tryz.prog 92 #[at0 K.w0.heap.size] w (Verb K ((incE K.v K.args).map fun s => (s.out, s.found)) w) := by
 have hP := Lib.hid (one_any K hK w _ _ hA)
 have hE : Hid (incE K.v K.args = match oneE K.v K.args with
  | none => none
  | some b => putsE K.v.fs 11 ⟨[], [], 0⟩ b) := rfl
 have hL : Hid (∀ b, oneE K.v K.args = some b → b.length ≤ 100000) := by
  intro b hb
  unfold oneE at hb
  split at hb
  ·exact arg_len hb hK.lf
  ·cases hb
 have hKH := Lib.hid hK
 have hAH := Lib.hid hA
 generalize incE K.v K.args = RI at *
 generalize oneE K.v K.args = R at *
 obtain ⟨cb, hcb⟩ : ∃ n, K.w0.heap.size = n := ⟨_, rfl⟩
 have hCB := Lib.hid hcb
 rw [hcb] at hP ⊢
 clear hA hK hcb
 go_enter Tryz.func92, Tryz.ntmps92
 go_wp2_with fail
 refine hP.out.mono ?_
 rintro e w2 ⟨hb2, hPP⟩
 have hB2 := Lib.hid hb2
 cases R with
 | none =>
  obtain rfl : e = fl := hPP
  exact ⟨rfl, Verb.bad (by rw [hE.out]; rfl) (hb2.mono hAH.out.b.size)⟩
 | some b =>
  obtain ⟨v, rfl, ho2⟩ := hPP
  obtain ⟨Ab, c, rfl, hlc, hC⟩ := own_reads ho2
  have hS : PSt K w2 ⟨[], [], 0⟩ (.slice none 0 0) (.slice none 0 0) := ⟨hAH.out.below hb2, World.ownsRow_nil _ _ _ _, World.ownsRow_nil _ _ _ _, by simp, by simp, by simp, by simp⟩
  have hCall := puts_any K hKH.out 11 0 rfl w2 ⟨[], [], 0⟩ (.slice none 0 0) (.slice none 0 0) Ab c b hS hC (hL.out b rfl)
  rw [hCB.out] at hCall
  have hCH := Lib.hid hCall
  have hXB : Hid (∀ i, XP K (.slice none 0 0) (.slice none 0 0) i → K.w0.heap.size ≤ i) := fun i hx => XP.ge hS hx
  clear hCall hC ho2 hb2 hS hlc
  go_wp2_with fail
  refine hCH.out.mono ?_
  rintro e w3 ⟨hM3, hP3⟩
  have hb3 : Below K.w0.heap.size w2 w3 := hM3.below hXB.out (Nat.le_trans hAH.out.b.size hB2.out.size)
  have hB3 := Lib.hid ((hB2.out.mono hAH.out.b.size).trans hb3)
  have hE2 : Hid (RI = putsE K.v.fs 11 ⟨[], [], 0⟩ b) := hE.out
  clear hM3 hb3
  cases hp : putsE K.v.fs 11 ⟨[], [], 0⟩ b with
  | none =>
   rw [hp] at hP3
   obtain rfl : e = fl := hP3
   exact ⟨rfl, Verb.bad (by rw [hE2.out, hp]; rfl) hB3.out⟩
  | some s =>
   rw [hp] at hP3
   obtain ⟨vf, vo, rfl, hS3, _, _⟩ := hP3
   obtain ⟨A3, c3, rfl, hl3, hC3⟩ := own_reads hS3.o
   have hfin : Hid (Verb K (RI.map fun s => (s.out, s.found)) w (.returned (.slice A3 s.out.length c3)) w3) := by
    refine ⟨hB3.out, ?_⟩
    rw [hE2.out, hp]
    exact ⟨A3, c3, vf, _, rfl, hl3, hC3, hS3.at_, hS3.f, by have := hS3.lf; have := hS3.lm; show s.found.length ≤ 1000; omega⟩
   clear hC3 hS3 hl3 hp
   go_wp2_with fail
   go_ret
   exact hfin.out
theorem verb_any (K : CK) (hK : K.Ok) (verb : Txt) (hv : verbB verb = true) : ∃ g : Nat, (verbF verb).getD .nilFunc = .func (.func g) #[] #[] ∧ (∀ args w, (callFunc g args).run Tryz.prog w = .ok (.enter g args) w) ∧
  ∀ w, K.At w (.slice none 0 0) 0 → Tab w → Calls Tryz.prog g #[at0 K.w0.heap.size] w (Verb K (doE K.v verb K.args) w) := by
 by_cases h1 : verb = kCat
 ·subst h1
  exact ⟨88, rfl, enters_of Tryz.func88 (by kernel_rfl) rfl, fun w hA ht => (cat_any K hK w _ _ hA).mono fun e w' h => Verb.of h.gives hA⟩
 by_cases h2 : verb = kRev
 ·subst h2
  refine ⟨89, rfl, enters_of Tryz.func89 (by kernel_rfl) rfl, fun w hA ht => (rev_any K hK w _ _ hA).mono fun e w' h => ?_⟩
  have := Verb.of h.gives hA
  rw [Option.map_map] at this
  exact this
 by_cases h3 : verb = kSum
 ·subst h3
  exact ⟨90, rfl, enters_of Tryz.func90 (by kernel_rfl) rfl, fun w hA ht => (sum_any K hK w _ _ hA ht).mono fun e w' h => Verb.of h hA⟩
 by_cases h4 : verb = kPut
 ·subst h4
  exact ⟨91, rfl, enters_of Tryz.func91 (by kernel_rfl) rfl, fun w hA ht => (put_any K hK w _ _ hA).mono fun e w' h => Verb.of h hA⟩
 by_cases h5 : verb = kInc
 ·subst h5
  exact ⟨92, rfl, enters_of Tryz.func92 (by kernel_rfl) rfl, fun w hA ht => inc_any K hK w hA⟩
 have h6 : verb = kFail := by
  simp only [verbB, Bool.or_eq_true, beq_iff_eq] at hv
  rcases hv with ((((h | h) | h) | h) | h) | h
  ·exact absurd h h1
  ·exact absurd h h2
  ·exact absurd h h3
  ·exact absurd h h4
  ·exact absurd h h5
  ·exact h
 subst h6
 exact ⟨93, rfl, enters_of Tryz.func93 (by kernel_rfl) rfl, fun w hA ht => (fail_any K w).mono fun e w' h => by
  have : doE K.v kFail K.args = none := rfl
  rw [this]
  exact Verb.of h.gives hA⟩
end Go.Proofs.YtnegfigaiomehaaGreatDoor.Ck
end
section
namespace Go.Proofs.YtnegfigaiomehaaGreatDoor.Ck
open Go.RowKit Go.Lib Go.Shelf Go.Proofs.YtnegfigaiomehaaGreatDoor.U Go.Proofs.YtnegfigaiomehaaGreatDoor.P Go.Proofs.YtnegfigaiomehaaGreatDoor.MapV
open Go.Proofs.YtnegfigaiomehaaGreatDoor.Fld (fieldsT fieldsGo flushF)
theorem namesOk_right : ∀ (ws pre : List Txt), namesOk pre ws = true → ∀ w ∈ ws, rightL w = true
 | [], pre, _, w, hw => by simp at hw
 | a :: ws, pre, h, w, hw => by
  rw [namesOk, Bool.and_eq_true, Bool.and_eq_true] at h
  rcases List.mem_cons.1 hw with rfl | hw
  ·exact h.1.1
  ·exact namesOk_right ws _ h.2 w hw
theorem right_ne {l : Txt} (h : rightL l = true) : l ≠ [] := by
 rintro rfl
 exact absurd h (by decide)
structure OutFacts (outs : List Txt) (dep : Txt) : Prop where
 ne : outs ≠ []
 right : ∀ o ∈ outs, rightL o = true
 dep : dep ≠ [] → rightL dep = true
theorem outputsE_facts {ws outs : List Txt} {dep : Txt} (h : outputsE ws = some (outs, dep)) : OutFacts outs dep := by
 unfold outputsE at h
 split at h
 ·split at h
  ·rename_i k hk hc
   split at h
   ·rename_i hn
    injection h with h
    injection h with h1 h2
    subst h1 h2
    refine ⟨fun e => ?_, fun o ho => namesOk_right _ _ hn.1 o ho, fun _ => hc.2⟩
    have := congrArg List.length e
    rw [List.length_take, List.length_nil] at this
    omega
   ·cases h
  ·cases h
 ·split at h
  ·rename_i hn
   injection h with h
   injection h with h1 h2
   subst h1 h2
   exact ⟨hn.2, fun o ho => namesOk_right _ _ hn.1 o ho, fun e => absurd rfl e⟩
  ·cases h
theorem shapeW_facts {once : Bool} {ws : List Txt} {s : ShapeL} (h : shapeW once ws = some s) : s.once = once ∧ OutFacts s.outs s.dep ∧ (s.dep ≠ [] ↔ s.verb = kInc) := by
 unfold shapeW at h
 split at h
 ·cases h
 ·cases h
 ·split at h
  ·split at h
   ·cases h
   ·rename_i od ho
    split at h
    ·rename_i hd
     injection h with h
     subst h
     refine ⟨rfl, outputsE_facts (by rw [ho]), ?_⟩
     rw [beq_iff_eq, decide_eq_decide] at hd
     exact hd
    ·cases h
  ·cases h
theorem shapeE_facts {c : Txt} {s : ShapeL} (h : shapeE c = some s) : OutFacts s.outs s.dep ∧ (s.dep ≠ [] ↔ s.verb = kInc) := by
 unfold shapeE at h
 split at h
 ·exact (shapeW_facts h).2
 ·split at h
  ·exact (shapeW_facts h).2
  ·exact (shapeW_facts h).2
end Go.Proofs.YtnegfigaiomehaaGreatDoor.Ck
end
section
namespace Go.Proofs.YtnegfigaiomehaaGreatDoor.Ck
open Go.RowKit Go.Lib Go.Shelf Go.Maps Go.Proofs.YtnegfigaiomehaaGreatDoorW.PrintWords Go.Proofs.YtnegfigaiomehaaGreatDoorW.PrintLast Go.Proofs.YtnegfigaiomehaaGreatDoorW.PrintMore Go.Proofs.YtnegfigaiomehaaGreatDoor.U Go.Proofs.YtnegfigaiomehaaGreatDoor.P Go.Proofs.YtnegfigaiomehaaGreatDoor.PTh Go.Proofs.YtnegfigaiomehaaGreatDoor.MapV
open Go.Proofs.YtnegfigaiomehaaGreatDoor.Fld (fieldsT)
def Outs (A : Option Addr) (r : Option (List Txt × Txt)) (w : World) (e : Ending) (w' : World) : Prop := Below w.heap.size w w' ∧ match r with
 | none => e = fl
 | some od => ∃ c, e = .returned (.tuple #[.slice A od.1.length c, .string (B od.2)]) ∧ od.1.length ≤ c ∧ Kd.C Kd.string w' A od.1.length (od.1.map B)
theorem Outs.bad {A : Option Addr} {r : Option (List Txt × Txt)} {w w' : World} (h : r = none) (hb : Below w.heap.size w w') : Outs A r w fl w' := by subst h; exact ⟨hb, rfl⟩
set_option maxRecDepth 100000 in
set_option maxHeartbeats 8000000 in
theorem outputs_any (A : Option Addr) (c : Nat) (ws : List Txt) (w : World) (hc : Kd.C Kd.string w A ws.length (ws.map B)) (hle : ws.length ≤ c) (hn : ws.length < 1000000) :
  Calls Tryz.prog 87 #[.slice A ws.length c] w (Outs A (outputsE ws) w) := by
 obtain ⟨inf, hinf, _⟩ := info_parts infoStr
 have hcH := Lib.hid hc
 have hE : Hid (outputsE ws = match ws.findIdx? (· == [58]) with
  | some k => if k + 2 = ws.length ∧ rightL (ws.getD (k + 1) []) = true then
    (if namesOk [] (ws.take k) = true ∧ 0 < k then some (ws.take k, ws.getD (k + 1) []) else none) else none
  | none => if namesOk [] ws = true ∧ ws ≠ [] then some (ws, []) else none) := rfl
 generalize outputsE ws = R at *
 obtain ⟨N, hN⟩ : ∃ N, ws.length = N := ⟨_, rfl⟩
 have hNH := Lib.hid hN
 have hI := Lib.hid (index_any A c ws [58] w hc hn)
 rw [hN] at hn hle hI ⊢
 clear hc hN
 go_enter Tryz.func87, Tryz.ntmps87
 go_wp2_with fail
 refine hI.out.mono ?_
 rintro e w1 ⟨k, rfl, hk, rfl⟩
 clear hI
 rcases hk with ⟨rfl, hk⟩ | ⟨n, rfl, hi, hk⟩
 ·have hRR : Hid (R = if namesOk [] ws = true ∧ 0 < N then some (ws, []) else none) := by
   show R = _
   rw [hE.out, hk]
   simp only
   have : (ws ≠ []) ↔ 0 < N := by rw [← hNH.out, List.length_pos_iff]
   simp only [this]
  have hW : Hid (Kd.C Kd.string w1 A ws.length (ws.map B)) := hcH.out
  have hL : Hid (ws.length = N) := hNH.out
  have hle2 : N ≤ c := hle
  have hB1 : Hid (Below w1.heap.size w1 w1) := Below.refl _ _
  clear hk hE
  go_wp2_with fail
  go_loopg [35] N (fun gk s35 wr => ∃ i : Nat, s35 = .int .i64 (i : Int) ∧ i + gk = N ∧ Hid (namesOk (ws.take i) (ws.drop i) = namesOk [] ws) ∧ Hid (Below w1.heap.size w1 wr))
  case atStart => exact ⟨0, rfl, Nat.zero_add _, by show _ = _; simp, hB1.out⟩
  case round =>
   obtain ⟨i, rfl, hik, hA, hB⟩ := hrel
   cases gk with
   | zero =>
    obtain rfl : i = N := by omega
    have hlt : decide ((i : Int) < (i : Int)) = false := by simp
    have hT : Hid (namesOk [] ws = true) := by
     show _ = _
     rw [← hA.out, List.drop_of_length_le (by rw [hL.out]; omega), namesOk]
    by_cases h0 : 0 < i
    ·have hd : decide ((0 : Int) < (i : Int)) = true := by rw [decide_eq_true_iff]; omega
     go_wp2_with fail
     refine (need_yes _).mono ?_
     rintro e w3 ⟨rfl, rfl⟩
     go_wp2_with fail
     go_ret2
     have hR := hRR.out
     rw [if_pos ⟨hT.out, h0⟩] at hR
     rw [hR]
     refine ⟨hB.out, c, ?_, ?_, ?_⟩
     ·show _ = Ending.returned (.tuple #[.slice _ ws.length c, _])
      rw [hL.out]; rfl
     ·show ws.length ≤ c
      rw [hL.out]; exact hle2
     ·exact Kd.C_below hW.out hB.out
    ·have hd : decide ((0 : Int) < (i : Int)) = false := by rw [decide_eq_false_iff_not]; omega
     go_wp2_with fail
     refine (need_no _).mono ?_
     rintro e w3 ⟨rfl, rfl⟩
     exact ⟨rfl, Outs.bad (by rw [hRR.out, if_neg (fun h => h0 h.2)]) hB.out⟩
   | succ gk =>
    have hiN : i < ws.length := by rw [hL.out]; omega
    have hlt : decide ((i : Int) < (N : Int)) = true := by rw [decide_eq_true_iff]; omega
    obtain ⟨ad2, hA2, k0⟩ := text_at (Kd.C_below hW.out hB.out) i hiN
    obtain ⟨y, hy⟩ : ∃ y, ws[i] = y := ⟨_, rfl⟩
    have hY := Lib.hid hy
    rw [hy] at k0
    have hAH := Lib.hid hA2
    have hWT := Lib.hid (words_take (Kd.C_below hW.out hB.out) i (by omega))
    have hNM : Hid (namesOk [] ws = (rightL y && !((ws.take i).contains y) && namesOk (ws.take (i + 1)) (ws.drop (i + 1)))) := by
     show _ = _
     rw [← hA.out, List.drop_eq_getElem_cons hiN, namesOk, hy, List.take_succ_eq_append_getElem hiN, hy]
    clear hy hA
    have hi0 : (0 : Int) ≤ (i : Int) := by omega
    have hi1 : (i : Int) ≤ (N : Int) := by omega
    have hcut : ∀ W : World, (Instr.slice 23 (.slice A N c) none (some (.int .i64 (i : Int))) none).run Tryz.prog W = .ok (.slice A i c) W := fun W => by
     have := cut_to 23 9 .i64 Tryz.underlying23 hinf A N c (i : Int) hi0 hi1 hle2 W
     simpa using this
    have hTL : Hid ((ws.take i).length = i) := by show _ = _; rw [List.length_take]; omega
    clear hA2
    obtain ⟨ad, rfl⟩ : ∃ ad, A = some ad := ⟨_, hAH.out⟩
    obtain rfl : ad = ad2 := by have := hAH.out; injection this
    go_wp2_with fail
    refine (right_any y _).mono ?_
    rintro e w3 ⟨rfl, hb3⟩
    have hB3 := Lib.hid (hB.out.trans (hb3.mono hB.out.size))
    cases hr : rightL y with
    | false =>
     clear hb3
     go_wp2_with fail
     refine (need_no _).mono ?_
     rintro e w4 ⟨rfl, rfl⟩
     exact ⟨rfl, Outs.bad (by rw [hRR.out, hNM.out, hr]; simp) hB3.out⟩
    | true =>
     have hCt := contains_any (some ad) c (ws.take i) y w3 (by rw [hTL.out]; exact Kd.C_below hWT.out hb3) (by rw [hTL.out]; omega)
     rw [hTL.out] at hCt
     have hCt2 := Lib.hid hCt
     clear hb3 hCt
     go_wp2_with fail
     refine hCt2.out.mono ?_
     rintro e w4 ⟨rfl, rfl⟩
     cases hx : (ws.take i).contains y with
     | true =>
      go_wp2_with fail
      refine (need_no _).mono ?_
      rintro e w5 ⟨rfl, rfl⟩
      exact ⟨rfl, Outs.bad (by rw [hRR.out, hNM.out, hx]; simp) hB3.out⟩
     | false =>
      have hA3 : Hid (namesOk (ws.take (i + 1)) (ws.drop (i + 1)) = namesOk [] ws) := by
       show _ = _
       rw [hNM.out, hr, hx]; simp
      go_wp2_with fail
      refine (need_yes _).mono ?_
      rintro e w5 ⟨rfl, rfl⟩
      go_wp2_with fail
      go_roundg gk
      case measure => omega
      case rel => exact ⟨i + 1, by first | rfl | simp, by omega, hA3, hB3⟩
 ·have hkH := Lib.hid hk
  rw [hNH.out] at hi
  have hd0 : decide ((0 : Int) ≤ (n : Int)) = true := by rw [decide_eq_true_iff]; omega
  clear hk
  by_cases h2 : n + 2 = N
  ·have hi1 : (0 : Int) ≤ (n : Int) + 1 := by omega
   have hi2 : (n : Int) + 1 < (N : Int) := by omega
   have heq : ((n : Int) == (N : Int) - 2) = true := by rw [beq_iff_eq]; omega
   obtain ⟨ad, rfl, k0⟩ := text_at hcH.out (n + 1) (by rw [hNH.out]; omega)
   obtain ⟨dp, hdp⟩ : ∃ y, ws[n + 1]'(by rw [hNH.out]; omega) = y := ⟨_, rfl⟩
   rw [hdp] at k0
   replace k0 := cell_add k0
   have hgd : Hid (ws.getD (n + 1) [] = dp) := by
    show _ = _
    rw [List.getD_eq_getElem?_getD, List.getElem?_eq_getElem (by rw [hNH.out]; omega), hdp]; rfl
   have hnat : ((n : Int) + 1).toNat = n + 1 := by omega
   have hwr : IntKind.i64.wrap ((n : Int) + 1) = (n : Int) + 1 := by rw [IntKind.wrap_i64]; omega
   clear hdp
   go_wp2_with fail
   refine (right_any dp _).mono ?_
   rintro e w3 ⟨rfl, hb3⟩
   have hB1 : Hid (Below w1.heap.size w1 w3.drew) := hb3.drew
   have hB3 := Lib.hid hb3
   cases hr : rightL dp with
   | false =>
    clear hb3
    go_wp2_with fail
    refine (need_no _).mono ?_
    rintro e w4 ⟨rfl, rfl⟩
    exact ⟨rfl, Outs.bad (by rw [hE.out, hkH.out]; simp only; rw [if_neg]; rw [hgd.out, hr]; simp) hB3.out⟩
   | true =>
    have hS0 : Hid (w3.drew.cell? ⟨ad.block, ad.off + (n + 1), none⟩ = some (.string (B dp))) := below_cell hB1.out k0
    clear hb3
    go_wp2_with fail
    refine (need_yes _).mono ?_
    rintro e w4 ⟨rfl, rfl⟩
    have hRR : Hid (R = if namesOk [] (ws.take n) = true ∧ 0 < n then some (ws.take n, dp) else none) := by
     show R = _
     rw [hE.out, hkH.out]
     simp only
     rw [if_pos ⟨by rw [hNH.out]; exact h2, by rw [hgd.out]; exact hr⟩, hgd.out]
    have hW : Hid (Kd.C Kd.string w1 (some ad) (ws.take n).length ((ws.take n).map B)) := by
     have := words_take hcH.out n (by rw [hNH.out]; omega)
     have hl : (ws.take n).length = n := by rw [List.length_take, hNH.out]; omega
     show Kd.C _ _ _ _ _
     rw [hl]; exact this
    have hL : Hid ((ws.take n).length = n) := by show _ = _; rw [List.length_take, hNH.out]; omega
    have hle2 : n ≤ c := by omega
    have hj0 : (0 : Int) ≤ (n : Int) := by omega
    have hj1 : (n : Int) ≤ (N : Int) := by omega
    have hcut4 : ∀ W : World, (Instr.slice 23 (.slice (some ad) N c) none (some (.int .i64 (n : Int))) none).run Tryz.prog W = .ok (.slice (some ad) n c) W := fun W => by
     have := cut_to 23 9 .i64 Tryz.underlying23 hinf (some ad) N c (n : Int) hj0 hj1 hle W
     simpa using this
    clear hkH hE
    go_wp2_with fail
    refine RegP.regionH (fun w' => w'.cell? ⟨ad.block, ad.off + (n + 1), none⟩ = some (.string (B dp))) [(0, 0), (0, 1), (0, 2), (0, 3), (0, 4), (0, 5), (0, 6), (1, 7), (0, 8), (0, 9)] (by kernel_rfl) (by kernel_rfl) (by rfl) (by kernel_rfl) (by exact hS0.out) ?_
    refine RegP.pure1 (by (simp only [gA,gB,gC]); rfl) (by exact fun _ _ _ h => h) (by rfl) (by intro w'; go_simp; try with_reducible rfl) ?_
    try simp only [Act.put, pA,pB,pC]
    refine RegP.pure1 (by (simp only [gA,gB,gC]); rfl) (by exact fun _ _ _ h => h) (by rfl) (by intro w'; go_simp; try with_reducible rfl) ?_
    try simp only [Act.put, pA,pB,pC]
    refine RegP.pure1 (by (simp only [gA,gB,gC]); rfl) (by exact fun _ _ _ h => h) (by rfl) (by intro w'; go_simp; try with_reducible rfl) ?_
    try simp only [Act.put, pA,pB,pC]
    refine RegP.pure1 (by (simp only [gA,gB,gC]); rfl) (by exact fun _ _ _ h => h) (by rfl) (by intro w'; go_simp; try with_reducible rfl) ?_
    try simp only [Act.put, pA,pB,pC]
    refine RegP.pure1 (by (simp only [gA,gB,gC]); rfl) (by exact fun _ _ _ h => h) (by rfl) (by intro w'; go_simp; try with_reducible rfl) ?_
    try simp only [Act.put, pA,pB,pC]
    refine RegP.pure1 (by (simp only [gA,gB,gC]); rfl) (by exact fun _ _ _ h => h) (by rfl) (by intro w'; go_simp; try with_reducible rfl) ?_
    try simp only [Act.put, pA,pB,pC]
    refine RegP.pure1 (by (simp only [gA,gB,gC]); rfl) (by exact fun _ _ _ h => h) (by rfl) (by intro w'; go_simp; try with_reducible rfl) ?_
    try simp only [Act.put, pA,pB,pC]
    refine RegP.held1 (by (simp only [gA,gB,gC]); rfl) (by exact fun _ _ _ h => h) (by rfl) (by intro w' hS_; (try dsimp only at hS_); go_split_ands; go_simp; try with_reducible rfl) ?_
    try simp only [Act.put, pA,pB,pC]
    refine RegP.pure1 (by (simp only [gA,gB,gC]); rfl) (by exact fun _ _ _ h => h) (by rfl) (by intro w'; go_simp; try with_reducible rfl) ?_
    try simp only [Act.put, pA,pB,pC]
    refine RegP.pure1 (by (simp only [gA,gB,gC]); rfl) (by exact fun _ _ _ h => h) (by rfl) (by intro w'; go_simp; try with_reducible rfl) ?_
    try simp only [Act.put, pA,pB,pC]
    refine RegP.done1 ?_
    generalize ws.take n = wt at *
    try dsimp only
    clear hwr hnat hi1 hi2 heq hcut4 hS0 k0 hj0 hj1
    go_wp2_with fail
    go_loopg [35] n (fun gk s35 wr => ∃ i : Nat, s35 = .int .i64 (i : Int) ∧ i + gk = n ∧ Hid (namesOk (wt.take i) (wt.drop i) = namesOk [] wt) ∧ Hid (Below w1.heap.size w1 wr))
    case atStart => exact ⟨0, rfl, Nat.zero_add _, by show _ = _; simp, hB1.out⟩
    case round =>
     obtain ⟨i, rfl, hik, hA, hB⟩ := hrel
     cases gk with
     | zero =>
      obtain rfl : i = n := by omega
      have hlt : decide ((i : Int) < (i : Int)) = false := by simp
      have hT : Hid (namesOk [] wt = true) := by
       show _ = _
       rw [← hA.out, List.drop_of_length_le (by rw [hL.out]; omega), namesOk]
      by_cases h0 : 0 < i
      ·have hd : decide ((0 : Int) < (i : Int)) = true := by rw [decide_eq_true_iff]; omega
       go_wp2_with fail
       refine (need_yes _).mono ?_
       rintro e w3 ⟨rfl, rfl⟩
       go_wp2_with fail
       go_ret2
       have hR := hRR.out
       rw [if_pos ⟨hT.out, h0⟩] at hR
       rw [hR]
       refine ⟨hB.out, c, ?_, ?_, ?_⟩
       ·show _ = Ending.returned (.tuple #[.slice _ wt.length c, _])
        rw [hL.out]; rfl
       ·show wt.length ≤ c
        rw [hL.out]; exact hle2
       ·exact Kd.C_below hW.out hB.out
      ·have hd : decide ((0 : Int) < (i : Int)) = false := by rw [decide_eq_false_iff_not]; omega
       go_wp2_with fail
       refine (need_no _).mono ?_
       rintro e w3 ⟨rfl, rfl⟩
       exact ⟨rfl, Outs.bad (by rw [hRR.out, if_neg (fun h => h0 h.2)]) hB.out⟩
     | succ gk =>
      have hiN : i < wt.length := by rw [hL.out]; omega
      have hlt : decide ((i : Int) < (n : Int)) = true := by rw [decide_eq_true_iff]; omega
      obtain ⟨ad2, hA2, k0⟩ := text_at (Kd.C_below hW.out hB.out) i hiN
      obtain ⟨y, hy⟩ : ∃ y, wt[i] = y := ⟨_, rfl⟩
      have hY := Lib.hid hy
      rw [hy] at k0
      have hAH := Lib.hid hA2
      have hWT := Lib.hid (words_take (Kd.C_below hW.out hB.out) i (by omega))
      have hNM : Hid (namesOk [] wt = (rightL y && !((wt.take i).contains y) && namesOk (wt.take (i + 1)) (wt.drop (i + 1)))) := by
       show _ = _
       rw [← hA.out, List.drop_eq_getElem_cons hiN, namesOk, hy, List.take_succ_eq_append_getElem hiN, hy]
      clear hy hA
      have hi0 : (0 : Int) ≤ (i : Int) := by omega
      have hi1 : (i : Int) ≤ (n : Int) := by omega
      have hcut : ∀ W : World, (Instr.slice 23 (.slice (some ad) n c) none (some (.int .i64 (i : Int))) none).run Tryz.prog W = .ok (.slice (some ad) i c) W := fun W => by
       have := cut_to 23 9 .i64 Tryz.underlying23 hinf (some ad) n c (i : Int) hi0 hi1 hle2 W
       simpa using this
      have hTL : Hid ((wt.take i).length = i) := by show _ = _; rw [List.length_take]; omega
      clear hA2
      obtain rfl : ad = ad2 := by have := hAH.out; injection this
      go_wp2_with fail
      refine (right_any y _).mono ?_
      rintro e w3 ⟨rfl, hb3⟩
      have hB3 := Lib.hid (hB.out.trans (hb3.mono hB.out.size))
      cases hr : rightL y with
      | false =>
       clear hb3
       go_wp2_with fail
       refine (need_no _).mono ?_
       rintro e w4 ⟨rfl, rfl⟩
       exact ⟨rfl, Outs.bad (by rw [hRR.out, hNM.out, hr]; simp) hB3.out⟩
      | true =>
       have hCt := contains_any (some ad) c (wt.take i) y w3 (by rw [hTL.out]; exact Kd.C_below hWT.out hb3) (by rw [hTL.out]; omega)
       rw [hTL.out] at hCt
       have hCt2 := Lib.hid hCt
       clear hb3 hCt
       go_wp2_with fail
       refine hCt2.out.mono ?_
       rintro e w4 ⟨rfl, rfl⟩
       cases hx : (wt.take i).contains y with
       | true =>
        go_wp2_with fail
        refine (need_no _).mono ?_
        rintro e w5 ⟨rfl, rfl⟩
        exact ⟨rfl, Outs.bad (by rw [hRR.out, hNM.out, hx]; simp) hB3.out⟩
       | false =>
        have hA3 : Hid (namesOk (wt.take (i + 1)) (wt.drop (i + 1)) = namesOk [] wt) := by
         show _ = _
         rw [hNM.out, hr, hx]; simp
        go_wp2_with fail
        refine (need_yes _).mono ?_
        rintro e w5 ⟨rfl, rfl⟩
        go_wp2_with fail
        go_roundg gk
        case measure => omega
        case rel => exact ⟨i + 1, by first | rfl | simp, by omega, hA3, hB3⟩
  ·have heq : ((n : Int) == (N : Int) - 2) = false := by rw [beq_eq_false_iff_ne]; omega
   go_wp2_with fail
   refine (need_no _).mono ?_
   rintro e w4 ⟨rfl, rfl⟩
   exact ⟨rfl, Outs.bad (by rw [hE.out, hkH.out]; simp only; rw [if_neg]; rw [hNH.out]; exact fun h => h2 h.1) (Below.refl _ _)⟩
end Go.Proofs.YtnegfigaiomehaaGreatDoor.Ck
end
section
namespace Go.Proofs.YtnegfigaiomehaaGreatDoor.Ck
open Go.RowKit Go.Lib Go.Shelf Go.Maps Go.Proofs.YtnegfigaiomehaaGreatDoorW.PrintWords Go.Proofs.YtnegfigaiomehaaGreatDoorW.PrintLast Go.Proofs.YtnegfigaiomehaaGreatDoorW.PrintMore Go.Proofs.YtnegfigaiomehaaGreatDoor.U Go.Proofs.YtnegfigaiomehaaGreatDoor.P Go.Proofs.YtnegfigaiomehaaGreatDoor.PTh Go.Proofs.YtnegfigaiomehaaGreatDoor.MapV
open Go.Proofs.YtnegfigaiomehaaGreatDoor.Fld (fieldsT isBl fields_B)
set_option maxRecDepth 100000 in
set_option maxHeartbeats 2000000 in
theorem blank_grows (w : World) : PredGrows Tryz.prog 86 #[] isBl w := by
 intro W x hx hb
 show Calls Tryz.prog _ _ W fun e w' => e = .returned (.bool (isBl x)) ∧ Below W.heap.size W w'
 have d1 : ((x : Int) == 32) = isBl x := by rw [isBl, Bool.eq_iff_iff, beq_iff_eq, beq_iff_eq]; omega
 go_enter Tryz.func86, Tryz.ntmps86
 go_wp2_with fail
 go_ret
 exact ⟨by first | rfl | simp [d1], Below.refl _ _⟩
theorem fields_any (l : Txt) (hl : l.length ≤ 1000000) (W : World) :
  Calls Tryz.prog 85 #[.string (B l), .func (.func 86) #[] #[]] W fun e w' => ∃ X, e = .returned (.slice (some ⟨X, 0, none⟩) (fieldsT l).length (fieldsT l).length) ∧ Kd.C Kd.string w' (some ⟨X, 0, none⟩) (fieldsT l).length ((fieldsT l).map B) ∧ Below W.heap.size W w' := by
 refine (Tryz.strings_FieldsFunc_grows 86 #[] (fun args w => by kernel_rfl) isBl (B l) W (by rw [size_B]; omega) (blank_grows W)).mono ?_
 rintro e w' ⟨X, rfl, hX, ho, hb⟩
 have hR : Kd.R Kd.string 9 w' W.heap.size (fun _ => True) (.slice (some ⟨X, 0, none⟩) (goFieldsP isBl (B l)).length (goFieldsP isBl (B l)).length) (goFieldsP isBl (B l)) := Kd.R_of_own (enc := Value.string) ho (fun _ _ => trivial)
 obtain ⟨A, c, he, hlc, hC⟩ := Kd.R_reads hR
 injection he with h1 h2 h3
 rw [fields_B, List.length_map] at *
 subst h1
 exact ⟨X, rfl, hC, hb⟩
theorem fieldsT_len (l : Txt) : (fieldsT l).length ≤ l.length + 1 := Fld.fieldsGo_len l []
theorem fieldsGo_short (K : Nat) : ∀ (r u : Txt), u.length + r.length ≤ K → ∀ t ∈ Fld.fieldsGo u r, t.length ≤ K
 | [], u, h, t, ht => by
  simp only [Fld.fieldsGo, Fld.flushF] at ht
  split at ht
  ·simp at ht
  ·rw [List.mem_singleton.1 ht]; simpa using h
 | b :: r, u, h, t, ht => by
  rw [List.length_cons] at h
  rw [Fld.fieldsGo] at ht
  split at ht
  ·rcases List.mem_append.1 ht with ht | ht
   ·simp only [Fld.flushF] at ht
    split at ht
    ·simp at ht
    ·rw [List.mem_singleton.1 ht]; omega
   ·exact fieldsGo_short K r [] (by simp; omega) t ht
  ·exact fieldsGo_short K r (u ++ [b]) (by rw [List.length_append, List.length_singleton]; omega) t ht
theorem fieldsT_short (l : Txt) (h : l.length ≤ 100000) : ∀ t ∈ fieldsT l, t.length ≤ 1000000 := fun t ht => by
 have := fieldsGo_short l.length l [] (by simp) t ht
 omega
def Shapes (r : Option ShapeL) (w : World) (e : Ending) (w' : World) : Prop := Below w.heap.size w w' ∧ match r with
 | none => e = fl
 | some s => ∃ A1 c1 A2 c2, e = .returned (.tuple #[.string (B s.verb), .slice A1 s.args.length c1, .bool s.once, .slice A2 s.outs.length c2, .string (B s.dep)]) ∧ s.args.length ≤ c1 ∧ Kd.C Kd.string w' A1 s.args.length (s.args.map B) ∧ s.outs.length ≤ c2 ∧ Kd.C Kd.string w' A2 s.outs.length (s.outs.map B)
theorem Shapes.bad {r : Option ShapeL} {w w' : World} (h : r = none) (hb : Below w.heap.size w w') : Shapes r w fl w' := by subst h; exact ⟨hb, rfl⟩
theorem neq_verb (k : Txt) (w : World) : (binOp .neq 109 ((verbF k).getD .nilFunc) .nilFunc).run Tryz.prog w = .ok (.bool (verbB k)) w := by
 by_cases h1 : k = [102, 97, 105, 108]
 ·subst h1; kernel_rfl
 by_cases h2 : k = [105, 110, 99]
 ·subst h2; kernel_rfl
 by_cases h3 : k = [112, 117, 116]
 ·subst h3; kernel_rfl
 by_cases h4 : k = [115, 117, 109]
 ·subst h4; kernel_rfl
 by_cases h5 : k = [114, 101, 118]
 ·subst h5; kernel_rfl
 by_cases h6 : k = [99, 97, 116]
 ·subst h6; kernel_rfl
 have e1 : verbF k = none := by simp [verbF, h1, h2, h3, h4, h5, h6]
 have e2 : verbB k = false := by simp [verbB, kCat, kRev, kSum, kPut, kInc, kFail, h1, h2, h3, h4, h5, h6]
 have e3 : ∀ w : World, (binOp .neq 109 .nilFunc .nilFunc).run Tryz.prog w = .ok (.bool false) w := fun w => by kernel_rfl
 rw [e1, e2]
 exact e3 w
theorem eqg_verb (k : Txt) (w : World) : (eqGuard .neq 109 (.tmp 31) (.const .nilFunc) ((verbF k).getD .nilFunc) .nilFunc).run Tryz.prog w = .ok () w := by
 by_cases h1 : k = [102, 97, 105, 108]
 ·subst h1; kernel_rfl
 by_cases h2 : k = [105, 110, 99]
 ·subst h2; kernel_rfl
 by_cases h3 : k = [112, 117, 116]
 ·subst h3; kernel_rfl
 by_cases h4 : k = [115, 117, 109]
 ·subst h4; kernel_rfl
 by_cases h5 : k = [114, 101, 118]
 ·subst h5; kernel_rfl
 by_cases h6 : k = [99, 97, 116]
 ·subst h6; kernel_rfl
 have e1 : verbF k = none := by simp [verbF, h1, h2, h3, h4, h5, h6]
 have e3 : ∀ w : World, (eqGuard .neq 109 (.tmp 31) (.const .nilFunc) .nilFunc .nilFunc).run Tryz.prog w = .ok () w := fun w => by kernel_rfl
 rw [e1]
 exact e3 w
theorem zero_verb (w : World) : (zeroValue 109).run Tryz.prog w = .ok .nilFunc w := by kernel_rfl
theorem words_mid {w : World} {A : Option Addr} {c : Nat} {ws : List Txt} (h : Kd.C Kd.string w A ws.length (ws.map B)) (hc : ws.length ≤ c) (m : Nat) (hm : m ≤ ws.length) (h1 : 1 ≤ m) : Kd.C Kd.string w (if c = 1 then A else A.map (·.add 1)) (m - 1) (((ws.take m).drop 1).map B) := by
 have hl : (ws.take m).length = m := by rw [List.length_take]; omega
 have h2 := words_take h m hm
 have h3 := words_drop (c := c) (ws := ws.take m) (by rw [hl]; exact h2) (by omega) 1 (by omega)
 rw [hl] at h3
 exact h3
theorem take1_len (ws : List Txt) (m : Nat) (hm : m ≤ ws.length) : ((ws.take m).drop 1).length = m - 1 := by rw [List.length_drop, List.length_take]; omega
theorem map_add (A : Option Addr) (c m : Nat) : (if c = m then A else A.map (·.add (m * 1))) = (if c = m then A else A.map (·.add m)) := by rw [Nat.mul_one]
set_option maxRecDepth 100000 in
set_option maxHeartbeats 16000000 in
theorem shape_any (cmd : Txt) (hl : cmd.length ≤ 100000) (w : World) : Calls Tryz.prog 63 #[.string (B cmd)] w (Shapes (shapeE cmd) w) := by
 obtain ⟨inf, hinf, hz0, hz1, hz2⟩ := info_parts infoStr
 have hE : Hid (shapeE cmd = match fieldsT cmd with
  | [] => shapeW false []
  | w :: ws => if w = kOnce then shapeW true ws else shapeW false (w :: ws)) := rfl
 have hfl := fieldsT_len cmd
 have hwds := fieldsT_short cmd hl
 have hF := Lib.hid (fields_any cmd (by omega) w)
 generalize shapeE cmd = R at *
 obtain ⟨ws, hws⟩ : ∃ ws, fieldsT cmd = ws := ⟨_, rfl⟩
 rw [hws] at hE hfl hF hwds
 clear hws
 go_enter Tryz.func63, Tryz.ntmps63
 go_wp2_with fail
 refine hF.out.mono ?_
 rintro e w1 ⟨X, rfl, hc, hb⟩
 have hB1 := Lib.hid hb
 have hcH := Lib.hid hc
 clear hF hb hc
 have hwords : Hid (∀ t ∈ ws, t.length ≤ 1000000) := hwds
 clear hwds
 obtain ⟨N, hN⟩ : ∃ N, ws.length = N := ⟨_, rfl⟩
 have hNH := Lib.hid hN
 rw [hN] at hfl ⊢
 clear hN
 rcases ws with _ | ⟨w0, rest⟩
 ·obtain rfl : N = 0 := hNH.out.symm
  have hNo : Hid (R = none) := hE.out
  have hI := Lib.hid (index_any (some ⟨X, 0, none⟩) 0 [] [62] w1 hcH.out (by simp))
  go_wp2_with fail
  refine hI.out.mono ?_
  rintro e w2 ⟨k, rfl, hk, rfl⟩
  obtain rfl : k = -1 := by
   rcases hk with ⟨h, _⟩ | ⟨i, _, h, _⟩
   ·exact h
   ·simp at h
  go_wp2_with fail
  refine RegP.regionH (fun w' => True) [(0, 0), (0, 1), (0, 2), (4, 3), (4, 4), (4, 5), (4, 6), (4, 7), (4, 8), (0, 9), (2, 10)] (by kernel_rfl) (by kernel_rfl) (by rfl) (by kernel_rfl) (by trivial) ?_
  refine RegP.pure1 (by (simp only [gA,gB,gC]); rfl) (by exact fun _ _ _ h => h) (by rfl) (by intro w'; go_simp; try with_reducible rfl) ?_
  try simp only [Act.put, pA,pB,pC]
  refine RegP.pure1 (by (simp only [gA,gB,gC]); rfl) (by exact fun _ _ _ h => h) (by rfl) (by intro w'; go_simp; try with_reducible rfl) ?_
  try simp only [Act.put, pA,pB,pC]
  refine RegP.pure1 (by (simp only [gA,gB,gC]); rfl) (by exact fun _ _ _ h => h) (by rfl) (by intro w'; go_simp; try with_reducible rfl) ?_
  try simp only [Act.put, pA,pB,pC]
  refine RegP.skip1 (by (simp only [gA,gB,gC]); rfl) (by exact fun _ _ _ h => h) (by rfl) ?_
  try simp only [Act.put, pA,pB,pC]
  refine RegP.skip1 (by (simp only [gA,gB,gC]); rfl) (by exact fun _ _ _ h => h) (by rfl) ?_
  try simp only [Act.put, pA,pB,pC]
  refine RegP.skip1 (by (simp only [gA,gB,gC]); rfl) (by exact fun _ _ _ h => h) (by rfl) ?_
  try simp only [Act.put, pA,pB,pC]
  refine RegP.skip1 (by (simp only [gA,gB,gC]); rfl) (by exact fun _ _ _ h => h) (by rfl) ?_
  try simp only [Act.put, pA,pB,pC]
  refine RegP.skip1 (by (simp only [gA,gB,gC]); rfl) (by exact fun _ _ _ h => h) (by rfl) ?_
  try simp only [Act.put, pA,pB,pC]
  refine RegP.skip1 (by (simp only [gA,gB,gC]); rfl) (by exact fun _ _ _ h => h) (by rfl) ?_
  try simp only [Act.put, pA,pB,pC]
  refine RegP.pure1 (by (simp only [gA,gB,gC]); rfl) (by exact fun _ _ _ h => h) (by rfl) (by intro w'; go_simp; try with_reducible rfl) ?_
  try simp only [Act.put, pA,pB,pC]
  refine RegP.ev1 (by (simp only [gA,gB,gC]); rfl) (fun K hK => ?_)
  go_simp
  refine (need_no _).mono ?_
  rintro e w3 ⟨rfl, rfl⟩
  exact ⟨rfl, Shapes.bad hNo.out hB1.out.drew⟩
 ·have hN1 : 0 < N := by rw [← hNH.out]; simp
  have hd0 : decide ((N : Int) > 0) = true := by rw [decide_eq_true_iff]; omega
  have hN1i : (0 : Int) < (N : Int) := by omega
  obtain ⟨ad0, hA0, k0⟩ := text_at hcH.out 0 (by simp)
  injection hA0 with hA0
  subst hA0
  have k1 : w1.cell? ⟨X, 0, none⟩ = some (.string (B w0)) := k0
  by_cases ho : w0 = kOnce
  ·have hne : (w0 == [111, 110, 99, 101]) = true := beq_iff_eq.2 ho
   have hRR : Hid (R = shapeW true rest) := by show R = _; rw [hE.out]; exact if_pos ho
   have hrl : ∀ t ∈ rest, t.length ≤ 1000000 := fun t ht => hwords.out t (List.mem_cons_of_mem _ ht)
   obtain ⟨n, hn⟩ : ∃ n, rest.length = n := ⟨_, rfl⟩
   have hL : Hid (rest.length = n) := hn
   have hNn : N = n + 1 := by rw [← hNH.out, List.length_cons, hn]
   have hle2 : n ≤ n := Nat.le_refl _
   have hnn : n ≤ 100001 := by omega
   have hN1j : (1 : Int) ≤ (N : Int) := by omega
   obtain ⟨A, hA⟩ : ∃ A, A = if N = 1 then some (⟨X, 0, none⟩ : Addr) else (some (⟨X, 0, none⟩ : Addr)).map (·.add 1) := ⟨_, rfl⟩
   have hW1 : Hid (Kd.C Kd.string w1 A n (rest.map B)) := by
    have := words_drop (c := N) (ws := w0 :: rest) hcH.out (by rw [hNH.out]; exact Nat.le_refl _) 1 (by simp)
    rw [← hA, hNH.out, hNn] at this
    exact this
   have hcut3 : ∀ W : World, (Instr.slice 23 (.slice (some ⟨X, 0, none⟩) N N) (some (.int .i64 1)) none none).run Tryz.prog W = .ok (.slice A n n) W := fun W => by
    have := cut_from 23 9 .i64 Tryz.underlying23 hinf 1 hz1 (some ⟨X, 0, none⟩) N N 1 (by omega) (by omega) W
    rw [show ((1 : Int)).toNat = 1 from rfl, map_add, ← hA, show N - 1 = n by omega] at this
    exact this
   clear hA hn hNn
   go_wp2_with fail
   refine RegP.regionH (fun w' => True) [(0, 0), (0, 1), (0, 2), (0, 3)] (by kernel_rfl) (by kernel_rfl) (by rfl) (by kernel_rfl) (by trivial) ?_
   refine RegP.pure1 (by (simp only [gA,gB,gC]); rfl) (by exact fun _ _ _ h => h) (by rfl) (by intro w'; go_simp; try with_reducible rfl) ?_
   try simp only [Act.put, pA,pB,pC]
   refine RegP.pure1 (by (simp only [gA,gB,gC]); rfl) (by exact fun _ _ _ h => h) (by rfl) (by intro w'; go_simp; try with_reducible rfl) ?_
   try simp only [Act.put, pA,pB,pC]
   refine RegP.pure1 (by (simp only [gA,gB,gC]); rfl) (by exact fun _ _ _ h => h) (by rfl) (by intro w'; go_simp; try with_reducible rfl) ?_
   try simp only [Act.put, pA,pB,pC]
   refine RegP.pure1 (by (simp only [gA,gB,gC]); rfl) (by exact fun _ _ _ h => h) (by rfl) (by intro w'; go_simp; try with_reducible rfl) ?_
   try simp only [Act.put, pA,pB,pC]
   refine RegP.done1 ?_
   try dsimp only
   obtain ⟨w2, hw2⟩ : ∃ w2, w1.drew = w2 := ⟨_, rfl⟩
   have hW : Hid (Kd.C Kd.string w2 A rest.length (rest.map B)) := by
    show Kd.C _ _ _ _ _
    rw [← hw2, hL.out]; exact Kd.C_below hW1.out ((Below.refl _ _).drew)
   have hBt : Hid (Below w.heap.size w w2) := by show Below _ _ _; rw [← hw2]; exact hB1.out.drew
   have hI := Lib.hid (index_any A n rest [62] w2 hW.out (by rw [hL.out]; omega))
   rw [hL.out] at hI
   rw [hw2]
   clear hcut3 hw2 k1 k0 hW1 hB1 hcH hE hne
   go_wp2_with fail
   refine hI.out.mono ?_
   rintro e w2 ⟨k, rfl, hk, rfl⟩
   clear hI
   rcases hk with ⟨rfl, hk⟩ | ⟨k, rfl, hk1, hk⟩
   ·have hNo : Hid (R = none) := by show R = _; rw [hRR.out, shapeW, hk]
    clear hk
    go_wp2_with fail
    refine RegP.regionH (fun w' => True) [(0, 0), (0, 1), (0, 2), (4, 3), (4, 4), (4, 5), (4, 6), (4, 7), (4, 8), (0, 9), (2, 10)] (by kernel_rfl) (by kernel_rfl) (by rfl) (by kernel_rfl) (by trivial) ?_
    refine RegP.pure1 (by (simp only [gA,gB,gC]); rfl) (by exact fun _ _ _ h => h) (by rfl) (by intro w'; go_simp; try with_reducible rfl) ?_
    try simp only [Act.put, pA,pB,pC]
    refine RegP.pure1 (by (simp only [gA,gB,gC]); rfl) (by exact fun _ _ _ h => h) (by rfl) (by intro w'; go_simp; try with_reducible rfl) ?_
    try simp only [Act.put, pA,pB,pC]
    refine RegP.pure1 (by (simp only [gA,gB,gC]); rfl) (by exact fun _ _ _ h => h) (by rfl) (by intro w'; go_simp; try with_reducible rfl) ?_
    try simp only [Act.put, pA,pB,pC]
    refine RegP.skip1 (by (simp only [gA,gB,gC]); rfl) (by exact fun _ _ _ h => h) (by rfl) ?_
    try simp only [Act.put, pA,pB,pC]
    refine RegP.skip1 (by (simp only [gA,gB,gC]); rfl) (by exact fun _ _ _ h => h) (by rfl) ?_
    try simp only [Act.put, pA,pB,pC]
    refine RegP.skip1 (by (simp only [gA,gB,gC]); rfl) (by exact fun _ _ _ h => h) (by rfl) ?_
    try simp only [Act.put, pA,pB,pC]
    refine RegP.skip1 (by (simp only [gA,gB,gC]); rfl) (by exact fun _ _ _ h => h) (by rfl) ?_
    try simp only [Act.put, pA,pB,pC]
    refine RegP.skip1 (by (simp only [gA,gB,gC]); rfl) (by exact fun _ _ _ h => h) (by rfl) ?_
    try simp only [Act.put, pA,pB,pC]
    refine RegP.skip1 (by (simp only [gA,gB,gC]); rfl) (by exact fun _ _ _ h => h) (by rfl) ?_
    try simp only [Act.put, pA,pB,pC]
    refine RegP.pure1 (by (simp only [gA,gB,gC]); rfl) (by exact fun _ _ _ h => h) (by rfl) (by intro w'; go_simp; try with_reducible rfl) ?_
    try simp only [Act.put, pA,pB,pC]
    refine RegP.ev1 (by (simp only [gA,gB,gC]); rfl) (fun K hK => ?_)
    go_simp
    refine (need_no _).mono ?_
    rintro e w3 ⟨rfl, rfl⟩
    exact ⟨rfl, Shapes.bad hNo.out hBt.out.drew⟩
   ·rw [hL.out] at hk1
    by_cases hk0 : k = 0
    ·subst hk0
     have hNo : Hid (R = none) := by show R = _; rw [hRR.out, shapeW, hk]
     clear hk
     go_wp2_with fail
     refine RegP.regionH (fun w' => True) [(0, 0), (0, 1), (0, 2), (4, 3), (4, 4), (4, 5), (4, 6), (4, 7), (4, 8), (0, 9), (2, 10)] (by kernel_rfl) (by kernel_rfl) (by rfl) (by kernel_rfl) (by trivial) ?_
     refine RegP.pure1 (by (simp only [gA,gB,gC]); rfl) (by exact fun _ _ _ h => h) (by rfl) (by intro w'; go_simp; try with_reducible rfl) ?_
     try simp only [Act.put, pA,pB,pC]
     refine RegP.pure1 (by (simp only [gA,gB,gC]); rfl) (by exact fun _ _ _ h => h) (by rfl) (by intro w'; go_simp; try with_reducible rfl) ?_
     try simp only [Act.put, pA,pB,pC]
     refine RegP.pure1 (by (simp only [gA,gB,gC]); rfl) (by exact fun _ _ _ h => h) (by rfl) (by intro w'; go_simp; try with_reducible rfl) ?_
     try simp only [Act.put, pA,pB,pC]
     refine RegP.skip1 (by (simp only [gA,gB,gC]); rfl) (by exact fun _ _ _ h => h) (by rfl) ?_
     try simp only [Act.put, pA,pB,pC]
     refine RegP.skip1 (by (simp only [gA,gB,gC]); rfl) (by exact fun _ _ _ h => h) (by rfl) ?_
     try simp only [Act.put, pA,pB,pC]
     refine RegP.skip1 (by (simp only [gA,gB,gC]); rfl) (by exact fun _ _ _ h => h) (by rfl) ?_
     try simp only [Act.put, pA,pB,pC]
     refine RegP.skip1 (by (simp only [gA,gB,gC]); rfl) (by exact fun _ _ _ h => h) (by rfl) ?_
     try simp only [Act.put, pA,pB,pC]
     refine RegP.skip1 (by (simp only [gA,gB,gC]); rfl) (by exact fun _ _ _ h => h) (by rfl) ?_
     try simp only [Act.put, pA,pB,pC]
     refine RegP.skip1 (by (simp only [gA,gB,gC]); rfl) (by exact fun _ _ _ h => h) (by rfl) ?_
     try simp only [Act.put, pA,pB,pC]
     refine RegP.pure1 (by (simp only [gA,gB,gC]); rfl) (by exact fun _ _ _ h => h) (by rfl) (by intro w'; go_simp; try with_reducible rfl) ?_
     try simp only [Act.put, pA,pB,pC]
     refine RegP.ev1 (by (simp only [gA,gB,gC]); rfl) (fun K hK => ?_)
     go_simp
     refine (need_no _).mono ?_
     rintro e w3 ⟨rfl, rfl⟩
     exact ⟨rfl, Shapes.bad hNo.out hBt.out.drew⟩
    ·have hd1 : decide ((k : Int) ≥ 1) = true := by rw [decide_eq_true_iff]; omega
     have hd2 : decide (1 ≤ (k : Int)) = true := by rw [decide_eq_true_iff]; omega
     have hn0i : (0 : Int) < (n : Int) := by omega
     have hn0 : 0 < n := by omega
     obtain ⟨ad, hA, k0⟩ := text_at hW.out 0 (by rw [hL.out]; omega)
     obtain ⟨v0, hv0⟩ : ∃ y, rest[0]'(by rw [hL.out]; omega) = y := ⟨_, rfl⟩
     rw [hv0] at k0
     have e0 : ad.add 0 = ad := by simp [Addr.add]
     rw [e0] at k0
     have hv0l : v0.length ≤ 1000000 := by rw [← hv0]; exact hrl _ (List.getElem_mem _)
     have hgd : Hid (rest.getD 0 [] = v0) := by
      show _ = _
      rw [List.getD_eq_getElem?_getD, List.getElem?_eq_getElem (by rw [hL.out]; omega), hv0]; rfl
     subst hA
     have hS5 : Hid ((w2.drew).cell? ad = some (.string (B v0))) := k0
     have hRS : Hid (R = if verbB v0 = true then match outputsE (rest.drop (k + 1)) with
       | none => none
       | some od => if (decide (od.2 ≠ []) == decide (v0 = kInc)) = true then some ⟨v0, (rest.take k).drop 1, true, od.1, od.2⟩ else none
      else none) := by
      show R = _
      rw [hRR.out, shapeW, hk]
      obtain ⟨k', rfl⟩ : ∃ k', k = k' + 1 := ⟨k - 1, by omega⟩
      simp only [hgd.out]
      rfl
     clear hRR hk hv0 hgd e0 k0
     go_wp2_with fail
     refine RegP.regionH (fun w' => w'.cell? ad = some (.string (B v0))) [(0, 0), (0, 1), (0, 2), (0, 4), (0, 5), (1, 6), (2, 3), (2, 7), (0, 8), (0, 9), (2, 10)] (by kernel_rfl) (by kernel_rfl) (by rfl) (by kernel_rfl) (by exact hS5.out) ?_
     refine RegP.pure1 (by (simp only [gA,gB,gC]); rfl) (by exact fun _ _ _ h => h) (by rfl) (by intro w'; go_simp; try with_reducible rfl) ?_
     try simp only [Act.put, pA,pB,pC]
     refine RegP.pure1 (by (simp only [gA,gB,gC]); rfl) (by exact fun _ _ _ h => h) (by rfl) (by intro w'; go_simp; try with_reducible rfl) ?_
     try simp only [Act.put, pA,pB,pC]
     refine RegP.pure1 (by (simp only [gA,gB,gC]); rfl) (by exact fun _ _ _ h => h) (by rfl) (by intro w'; go_simp; try with_reducible rfl) ?_
     try simp only [Act.put, pA,pB,pC]
     refine RegP.pure1 (by (simp only [gA,gB,gC]); rfl) (by exact fun _ _ _ h => h) (by rfl) (by intro w'; go_simp; try with_reducible rfl) ?_
     try simp only [Act.put, pA,pB,pC]
     refine RegP.pure1 (by (simp only [gA,gB,gC]); rfl) (by exact fun _ _ _ h => h) (by rfl) (by intro w'; go_simp; try with_reducible rfl) ?_
     try simp only [Act.put, pA,pB,pC]
     refine RegP.held1 (by (simp only [gA,gB,gC]); rfl) (by exact fun _ _ _ h => h) (by rfl) (by intro w' hS_; (try dsimp only at hS_); go_split_ands; go_simp; try with_reducible rfl) ?_
     try simp only [Act.put, pA,pB,pC]
     refine RegP.ev1 (by (simp only [gA,gB,gC]); rfl) (fun K hK => ?_)
     go_simp
     refine (verbs_any _).mono ?_
     rintro e w3 ⟨rfl, hM, hb3⟩
     have hB3 := Lib.hid (hBt.out.drew.trans (hb3.mono hBt.out.drew.size))
     have hW3 := Lib.hid (Kd.C_below (Kd.C_below hW.out ((Below.refl _ _).drew)) hb3)
     have hS6 : Hid (w3.cell? ad = some (.string (B v0))) := below_cell hb3 hS5.out
     have hlk : (Instr.lookup 110 (.map (some w2.heap.size)) (.string (B v0)) false).run Tryz.prog w3 = .ok ((verbF v0).getD .nilFunc) w3 := hM.look (t := 110) Tryz.underlying110 (zero_verb w3) v0 (by unfold maxLen; omega)
     have hnv := neq_verb v0
     have heg := eqg_verb v0
     clear hM hb3 hS5
     generalize (verbF v0).getD .nilFunc = vf at *
     refine hK.out _ _ ?_ (fun hHeld => ?_)
     ·(try dsimp only); exact hS6.out
     clear hK K
     try simp only [Act.put, pA,pB,pC]
     refine RegP.ev1 (by (simp only [gA,gB,gC]); rfl) (fun K hK => ?_)
     go_simp
     refine hK.out _ _ ?_ (fun hHeld => ?_)
     ·(try dsimp only); exact hS6.out
     clear hK K
     try simp only [Act.put, pA,pB,pC]
     refine RegP.pure1 (by (simp only [gA,gB,gC]); rfl) (by exact fun _ _ _ h => h) (by rfl) (by intro w'; go_simp; try with_reducible rfl) ?_
     try simp only [Act.put, pA,pB,pC]
     refine RegP.pure1 (by (simp only [gA,gB,gC]); rfl) (by exact fun _ _ _ h => h) (by rfl) (by intro w'; go_simp; try with_reducible rfl) ?_
     try simp only [Act.put, pA,pB,pC]
     refine RegP.ev1 (by (simp only [gA,gB,gC]); rfl) (fun K hK => ?_)
     go_simp
     cases hvb : verbB v0 with
     | false =>
      refine (need_no _).mono ?_
      rintro e w4 ⟨rfl, rfl⟩
      exact ⟨rfl, Shapes.bad (by rw [hRS.out, hvb]; rfl) hB3.out⟩
     | true =>
      refine (need_yes _).mono ?_
      rintro e w4 ⟨rfl, rfl⟩
      refine hK.out _ _ ?_ (fun hHeld => ?_)
      ·(try dsimp only); exact hS6.out
      clear hK K
      try simp only [Act.put, pA,pB,pC]
      refine RegP.done1 ?_
      clear hHeld
      try dsimp only
      clear hnv hlk heg
      have hRT : Hid (R = match outputsE (rest.drop (k + 1)) with
        | none => none
        | some od => if (decide (od.2 ≠ []) == decide (v0 = kInc)) = true then some ⟨v0, (rest.take k).drop 1, true, od.1, od.2⟩ else none) := by
       show R = _
       rw [hRS.out, hvb]; rfl
      have hj0 : (0 : Int) ≤ (k : Int) + 1 := by omega
      have hj1 : (k : Int) + 1 ≤ (n : Int) := by omega
      have hj2 : (1 : Int) ≤ (k : Int) := by omega
      have hj3 : (k : Int) ≤ (n : Int) := by omega
      have hwr : IntKind.i64.wrap ((k : Int) + 1) = (k : Int) + 1 := by rw [IntKind.wrap_i64]; omega
      have hDL : Hid ((rest.drop (k + 1)).length = n - (k + 1)) := by show _ = _; rw [List.length_drop, hL.out]
      obtain ⟨A6, hA6⟩ : ∃ A6, A6 = if n = k + 1 then some ad else (some ad).map (·.add (k + 1)) := ⟨_, rfl⟩
      have hC6 : Hid (Kd.C Kd.string w3 A6 (n - (k + 1)) ((rest.drop (k + 1)).map B)) := by
       have := words_drop (c := n) hW3.out (by rw [hL.out]; exact hle2) (k + 1) (by rw [hL.out]; omega)
       rw [hL.out, ← hA6] at this
       exact this
      have hcut6 : ∀ W : World, (Instr.slice 23 (.slice (some ad) n n) (some (.int .i64 ((k : Int) + 1))) none none).run Tryz.prog W = .ok (.slice A6 (n - (k + 1)) (n - (k + 1))) W := fun W => by
       have := cut_from 23 9 .i64 Tryz.underlying23 hinf 1 hz1 (some ad) n n ((k : Int) + 1) hj0 hj1 W
       rw [show ((k : Int) + 1).toNat = k + 1 by omega, map_add, ← hA6] at this
       exact this
      obtain ⟨A8, hA8⟩ : ∃ A8, A8 = if n = 1 then some ad else (some ad).map (·.add 1) := ⟨_, rfl⟩
      have hC8 : Hid (Kd.C Kd.string w3 A8 (k - 1) (((rest.take k).drop 1).map B)) := by
       have := words_mid (c := n) hW3.out (by rw [hL.out]; exact hle2) k (by rw [hL.out]; omega) (by omega)
       rw [← hA8] at this
       exact this
      have hcut8 : ∀ W : World, (Instr.slice 23 (.slice (some ad) n n) (some (.int .i64 1)) (some (.int .i64 (k : Int))) none).run Tryz.prog W = .ok (.slice A8 (k - 1) (n - 1)) W := fun W => by
       have := cut_mid 23 9 .i64 .i64 Tryz.underlying23 hinf 1 hz1 (some ad) n n 1 (k : Int) (by omega) hj2 hj3 hle2 W
       rw [show ((1 : Int)).toNat = 1 from rfl, show ((k : Int)).toNat = k by omega, map_add, ← hA8] at this
       exact this
      have hO := outputs_any A6 (n - (k + 1)) (rest.drop (k + 1)) w3 (by rw [hDL.out]; exact hC6.out) (by rw [hDL.out]; omega) (by rw [hDL.out]; omega)
      rw [hDL.out] at hO
      have hAL : Hid (((rest.take k).drop 1).length = k - 1) := take1_len rest k (by rw [hL.out]; omega)
      have hOH := Lib.hid hO
      clear hO hRS hC6 hA6 hA8 hDL
      generalize (rest.take k).drop 1 = args at *
      generalize outputsE (rest.drop (k + 1)) = ro at *
      go_wp2_with fail
      refine hOH.out.mono ?_
      rintro e w5 ⟨hb5, hP⟩
      have hB5 := Lib.hid (hB3.out.trans (hb5.mono hB3.out.size))
      have hS8 : Hid (w5.drew.cell? ad = some (.string (B v0))) := below_cell hb5.drew hS6.out
      have hC8' := Lib.hid (Kd.C_below hC8.out hb5.drew)
      clear hcut6 hOH hwr hC8
      cases ro with
      | none =>
       obtain rfl : e = fl := hP
       exact ⟨rfl, Shapes.bad hRT.out hB5.out⟩
      | some od =>
       obtain ⟨outs, dep⟩ := od
       obtain ⟨c2, rfl, hl2, hC2⟩ := hP
       have hC2' := Lib.hid (Kd.C_below hC2 (Below.refl w5.heap.size w5).drew)
       have hl2' := Lib.hid hl2
       have hk0 : w5.cell? ad = some (.string (B v0)) := hS8.out
       clear hb5 hC2 hl2
       dsimp only at *
       cases hvi : (v0 == [105, 110, 99]) with
       | false =>
        have hvk : Hid (v0 ≠ kInc) := beq_eq_false_iff_ne.1 hvi
        cases dep with
        | nil =>
         have hRU : Hid (R = some ⟨v0, args, true, outs, []⟩) := by
          show R = _
          rw [hRT.out]; simp [hvk.out] <;> exact hvk.out.symm
         go_wp2_with fail
         refine (need_yes _).mono ?_
         rintro e w6 ⟨rfl, rfl⟩
         go_wp2_with fail
         refine RegP.regionH (fun w' => w'.cell? ad = some (.string (B v0))) [(0, 0), (0, 1), (1, 2), (0, 3), (0, 4), (0, 5), (0, 6), (0, 7), (0, 8), (0, 9), (0, 10), (0, 11), (0, 12), (0, 13)] (by kernel_rfl) (by kernel_rfl) (by rfl) (by kernel_rfl) (by exact hS8.out) ?_
         refine RegP.pure1 (by (simp only [gA,gB,gC]); rfl) (by exact fun _ _ _ h => h) (by rfl) (by intro w'; go_simp; try with_reducible rfl) ?_
         try simp only [Act.put, pA,pB,pC]
         refine RegP.pure1 (by (simp only [gA,gB,gC]); rfl) (by exact fun _ _ _ h => h) (by rfl) (by intro w'; go_simp; try with_reducible rfl) ?_
         try simp only [Act.put, pA,pB,pC]
         refine RegP.held1 (by (simp only [gA,gB,gC]); rfl) (by exact fun _ _ _ h => h) (by rfl) (by intro w' hS_; (try dsimp only at hS_); go_split_ands; go_simp; try with_reducible rfl) ?_
         try simp only [Act.put, pA,pB,pC]
         refine RegP.pure1 (by (simp only [gA,gB,gC]); rfl) (by exact fun _ _ _ h => h) (by rfl) (by intro w'; go_simp; try with_reducible rfl) ?_
         try simp only [Act.put, pA,pB,pC]
         refine RegP.pure1 (by (simp only [gA,gB,gC]); rfl) (by exact fun _ _ _ h => h) (by rfl) (by intro w'; go_simp; try with_reducible rfl) ?_
         try simp only [Act.put, pA,pB,pC]
         refine RegP.pure1 (by (simp only [gA,gB,gC]); rfl) (by exact fun _ _ _ h => h) (by rfl) (by intro w'; go_simp; try with_reducible rfl) ?_
         try simp only [Act.put, pA,pB,pC]
         refine RegP.pure1 (by (simp only [gA,gB,gC]); rfl) (by exact fun _ _ _ h => h) (by rfl) (by intro w'; go_simp; try with_reducible rfl) ?_
         try simp only [Act.put, pA,pB,pC]
         refine RegP.pure1 (by (simp only [gA,gB,gC]); rfl) (by exact fun _ _ _ h => h) (by rfl) (by intro w'; go_simp; try with_reducible rfl) ?_
         try simp only [Act.put, pA,pB,pC]
         refine RegP.pure1 (by (simp only [gA,gB,gC]); rfl) (by exact fun _ _ _ h => h) (by rfl) (by intro w'; go_simp; try with_reducible rfl) ?_
         try simp only [Act.put, pA,pB,pC]
         refine RegP.pure1 (by (simp only [gA,gB,gC]); rfl) (by exact fun _ _ _ h => h) (by rfl) (by intro w'; go_simp; try with_reducible rfl) ?_
         try simp only [Act.put, pA,pB,pC]
         refine RegP.pure1 (by (simp only [gA,gB,gC]); rfl) (by exact fun _ _ _ h => h) (by rfl) (by intro w'; go_simp; try with_reducible rfl) ?_
         try simp only [Act.put, pA,pB,pC]
         refine RegP.pure1 (by (simp only [gA,gB,gC]); rfl) (by exact fun _ _ _ h => h) (by rfl) (by intro w'; go_simp; try with_reducible rfl) ?_
         try simp only [Act.put, pA,pB,pC]
         refine RegP.pure1 (by (simp only [gA,gB,gC]); rfl) (by exact fun _ _ _ h => h) (by rfl) (by intro w'; go_simp; try with_reducible rfl) ?_
         try simp only [Act.put, pA,pB,pC]
         refine RegP.pure1 (by (simp only [gA,gB,gC]); rfl) (by exact fun _ _ _ h => h) (by rfl) (by intro w'; go_simp; try with_reducible rfl) ?_
         try simp only [Act.put, pA,pB,pC]
         refine RegP.done1 ?_
         try dsimp only
         go_wp2_with fail
         rw [hRU.out]
         refine bodyPost_ret (v := .tuple #[.string (B v0), .slice A8 (k - 1) (n - 1), .bool true, .slice A6 outs.length c2, .string (B [])]) (by simp [results, Tryz.results63, go_sem]) rfl ⟨hB5.out.drew, A8, n - 1, A6, c2, ?_, ?_, ?_, hl2'.out, hC2'.out⟩
         ·show _ = Ending.returned (.tuple #[_, .slice _ args.length _, _, _, _])
          rw [hAL.out]
         ·show args.length ≤ _
          rw [hAL.out]; omega
         ·show Kd.C _ _ _ args.length _
          rw [hAL.out]; exact hC8'.out
        | cons d0 ds =>
         go_wp2_with fail
         refine (need_no _).mono ?_
         rintro e w6 ⟨rfl, rfl⟩
         exact ⟨rfl, Shapes.bad (by rw [hRT.out]; simp [hvk.out]) hB5.out⟩
       | true =>
        have hvk : Hid (v0 = kInc) := beq_iff_eq.1 hvi
        cases dep with
        | nil =>
         go_wp2_with fail
         refine (need_no _).mono ?_
         rintro e w6 ⟨rfl, rfl⟩
         exact ⟨rfl, Shapes.bad (by rw [hRT.out]; simp [hvk.out]) hB5.out⟩
        | cons d0 ds =>
         have hRU : Hid (R = some ⟨v0, args, true, outs, (d0 :: ds)⟩) := by
          show R = _
          rw [hRT.out]; simp [hvk.out] <;> exact hvk.out.symm
         go_wp2_with fail
         refine (need_yes _).mono ?_
         rintro e w6 ⟨rfl, rfl⟩
         go_wp2_with fail
         refine RegP.regionH (fun w' => w'.cell? ad = some (.string (B v0))) [(0, 0), (0, 1), (1, 2), (0, 3), (0, 4), (0, 5), (0, 6), (0, 7), (0, 8), (0, 9), (0, 10), (0, 11), (0, 12), (0, 13)] (by kernel_rfl) (by kernel_rfl) (by rfl) (by kernel_rfl) (by exact hS8.out) ?_
         refine RegP.pure1 (by (simp only [gA,gB,gC]); rfl) (by exact fun _ _ _ h => h) (by rfl) (by intro w'; go_simp; try with_reducible rfl) ?_
         try simp only [Act.put, pA,pB,pC]
         refine RegP.pure1 (by (simp only [gA,gB,gC]); rfl) (by exact fun _ _ _ h => h) (by rfl) (by intro w'; go_simp; try with_reducible rfl) ?_
         try simp only [Act.put, pA,pB,pC]
         refine RegP.held1 (by (simp only [gA,gB,gC]); rfl) (by exact fun _ _ _ h => h) (by rfl) (by intro w' hS_; (try dsimp only at hS_); go_split_ands; go_simp; try with_reducible rfl) ?_
         try simp only [Act.put, pA,pB,pC]
         refine RegP.pure1 (by (simp only [gA,gB,gC]); rfl) (by exact fun _ _ _ h => h) (by rfl) (by intro w'; go_simp; try with_reducible rfl) ?_
         try simp only [Act.put, pA,pB,pC]
         refine RegP.pure1 (by (simp only [gA,gB,gC]); rfl) (by exact fun _ _ _ h => h) (by rfl) (by intro w'; go_simp; try with_reducible rfl) ?_
         try simp only [Act.put, pA,pB,pC]
         refine RegP.pure1 (by (simp only [gA,gB,gC]); rfl) (by exact fun _ _ _ h => h) (by rfl) (by intro w'; go_simp; try with_reducible rfl) ?_
         try simp only [Act.put, pA,pB,pC]
         refine RegP.pure1 (by (simp only [gA,gB,gC]); rfl) (by exact fun _ _ _ h => h) (by rfl) (by intro w'; go_simp; try with_reducible rfl) ?_
         try simp only [Act.put, pA,pB,pC]
         refine RegP.pure1 (by (simp only [gA,gB,gC]); rfl) (by exact fun _ _ _ h => h) (by rfl) (by intro w'; go_simp; try with_reducible rfl) ?_
         try simp only [Act.put, pA,pB,pC]
         refine RegP.pure1 (by (simp only [gA,gB,gC]); rfl) (by exact fun _ _ _ h => h) (by rfl) (by intro w'; go_simp; try with_reducible rfl) ?_
         try simp only [Act.put, pA,pB,pC]
         refine RegP.pure1 (by (simp only [gA,gB,gC]); rfl) (by exact fun _ _ _ h => h) (by rfl) (by intro w'; go_simp; try with_reducible rfl) ?_
         try simp only [Act.put, pA,pB,pC]
         refine RegP.pure1 (by (simp only [gA,gB,gC]); rfl) (by exact fun _ _ _ h => h) (by rfl) (by intro w'; go_simp; try with_reducible rfl) ?_
         try simp only [Act.put, pA,pB,pC]
         refine RegP.pure1 (by (simp only [gA,gB,gC]); rfl) (by exact fun _ _ _ h => h) (by rfl) (by intro w'; go_simp; try with_reducible rfl) ?_
         try simp only [Act.put, pA,pB,pC]
         refine RegP.pure1 (by (simp only [gA,gB,gC]); rfl) (by exact fun _ _ _ h => h) (by rfl) (by intro w'; go_simp; try with_reducible rfl) ?_
         try simp only [Act.put, pA,pB,pC]
         refine RegP.pure1 (by (simp only [gA,gB,gC]); rfl) (by exact fun _ _ _ h => h) (by rfl) (by intro w'; go_simp; try with_reducible rfl) ?_
         try simp only [Act.put, pA,pB,pC]
         refine RegP.done1 ?_
         try dsimp only
         go_wp2_with fail
         rw [hRU.out]
         refine bodyPost_ret (v := .tuple #[.string (B v0), .slice A8 (k - 1) (n - 1), .bool true, .slice A6 outs.length c2, .string (B (d0 :: ds))]) (by simp [results, Tryz.results63, go_sem]) rfl ⟨hB5.out.drew, A8, n - 1, A6, c2, ?_, ?_, ?_, hl2'.out, hC2'.out⟩
         ·show _ = Ending.returned (.tuple #[_, .slice _ args.length _, _, _, _])
          rw [hAL.out]
         ·show args.length ≤ _
          rw [hAL.out]; omega
         ·show Kd.C _ _ _ args.length _
          rw [hAL.out]; exact hC8'.out
  ·have hne : (w0 == [111, 110, 99, 101]) = false := beq_eq_false_iff_ne.2 ho
   have hRR : Hid (R = shapeW false (w0 :: rest)) := by show R = _; rw [hE.out]; exact if_neg ho
   have hwl : ∀ t ∈ w0 :: rest, t.length ≤ 1000000 := hwords.out
   have hL : Hid ((w0 :: rest).length = N) := hNH.out
   have hle2 : N ≤ N := Nat.le_refl _
   have hBt := hB1
   go_wp2_with fail
   generalize hAA : (some (⟨X, 0, none⟩ : Addr)) = A at *
   have hW : Hid (Kd.C Kd.string w1 A (w0 :: rest).length ((w0 :: rest).map B)) := hcH.out
   have hI := Lib.hid (index_any A N (w0 :: rest) [62] w1 hW.out (by rw [hL.out]; omega))
   rw [hL.out] at hI
   clear k1 k0 hcH hE hne hAA
   refine hI.out.mono ?_
   rintro e w1 ⟨k, rfl, hk, rfl⟩
   clear hI
   rcases hk with ⟨rfl, hk⟩ | ⟨k, rfl, hk1, hk⟩
   ·have hNo : Hid (R = none) := by show R = _; rw [hRR.out, shapeW, hk]
    clear hk
    go_wp2_with fail
    refine RegP.regionH (fun w' => True) [(0, 0), (0, 1), (0, 2), (4, 3), (4, 4), (4, 5), (4, 6), (4, 7), (4, 8), (0, 9), (2, 10)] (by kernel_rfl) (by kernel_rfl) (by rfl) (by kernel_rfl) (by trivial) ?_
    refine RegP.pure1 (by (simp only [gA,gB,gC]); rfl) (by exact fun _ _ _ h => h) (by rfl) (by intro w'; go_simp; try with_reducible rfl) ?_
    try simp only [Act.put, pA,pB,pC]
    refine RegP.pure1 (by (simp only [gA,gB,gC]); rfl) (by exact fun _ _ _ h => h) (by rfl) (by intro w'; go_simp; try with_reducible rfl) ?_
    try simp only [Act.put, pA,pB,pC]
    refine RegP.pure1 (by (simp only [gA,gB,gC]); rfl) (by exact fun _ _ _ h => h) (by rfl) (by intro w'; go_simp; try with_reducible rfl) ?_
    try simp only [Act.put, pA,pB,pC]
    refine RegP.skip1 (by (simp only [gA,gB,gC]); rfl) (by exact fun _ _ _ h => h) (by rfl) ?_
    try simp only [Act.put, pA,pB,pC]
    refine RegP.skip1 (by (simp only [gA,gB,gC]); rfl) (by exact fun _ _ _ h => h) (by rfl) ?_
    try simp only [Act.put, pA,pB,pC]
    refine RegP.skip1 (by (simp only [gA,gB,gC]); rfl) (by exact fun _ _ _ h => h) (by rfl) ?_
    try simp only [Act.put, pA,pB,pC]
    refine RegP.skip1 (by (simp only [gA,gB,gC]); rfl) (by exact fun _ _ _ h => h) (by rfl) ?_
    try simp only [Act.put, pA,pB,pC]
    refine RegP.skip1 (by (simp only [gA,gB,gC]); rfl) (by exact fun _ _ _ h => h) (by rfl) ?_
    try simp only [Act.put, pA,pB,pC]
    refine RegP.skip1 (by (simp only [gA,gB,gC]); rfl) (by exact fun _ _ _ h => h) (by rfl) ?_
    try simp only [Act.put, pA,pB,pC]
    refine RegP.pure1 (by (simp only [gA,gB,gC]); rfl) (by exact fun _ _ _ h => h) (by rfl) (by intro w'; go_simp; try with_reducible rfl) ?_
    try simp only [Act.put, pA,pB,pC]
    refine RegP.ev1 (by (simp only [gA,gB,gC]); rfl) (fun K hK => ?_)
    go_simp
    refine (need_no _).mono ?_
    rintro e w3 ⟨rfl, rfl⟩
    exact ⟨rfl, Shapes.bad hNo.out hBt.out.drew⟩
   ·rw [hL.out] at hk1
    by_cases hk0 : k = 0
    ·subst hk0
     have hNo : Hid (R = none) := by show R = _; rw [hRR.out, shapeW, hk]
     clear hk
     go_wp2_with fail
     refine RegP.regionH (fun w' => True) [(0, 0), (0, 1), (0, 2), (4, 3), (4, 4), (4, 5), (4, 6), (4, 7), (4, 8), (0, 9), (2, 10)] (by kernel_rfl) (by kernel_rfl) (by rfl) (by kernel_rfl) (by trivial) ?_
     refine RegP.pure1 (by (simp only [gA,gB,gC]); rfl) (by exact fun _ _ _ h => h) (by rfl) (by intro w'; go_simp; try with_reducible rfl) ?_
     try simp only [Act.put, pA,pB,pC]
     refine RegP.pure1 (by (simp only [gA,gB,gC]); rfl) (by exact fun _ _ _ h => h) (by rfl) (by intro w'; go_simp; try with_reducible rfl) ?_
     try simp only [Act.put, pA,pB,pC]
     refine RegP.pure1 (by (simp only [gA,gB,gC]); rfl) (by exact fun _ _ _ h => h) (by rfl) (by intro w'; go_simp; try with_reducible rfl) ?_
     try simp only [Act.put, pA,pB,pC]
     refine RegP.skip1 (by (simp only [gA,gB,gC]); rfl) (by exact fun _ _ _ h => h) (by rfl) ?_
     try simp only [Act.put, pA,pB,pC]
     refine RegP.skip1 (by (simp only [gA,gB,gC]); rfl) (by exact fun _ _ _ h => h) (by rfl) ?_
     try simp only [Act.put, pA,pB,pC]
     refine RegP.skip1 (by (simp only [gA,gB,gC]); rfl) (by exact fun _ _ _ h => h) (by rfl) ?_
     try simp only [Act.put, pA,pB,pC]
     refine RegP.skip1 (by (simp only [gA,gB,gC]); rfl) (by exact fun _ _ _ h => h) (by rfl) ?_
     try simp only [Act.put, pA,pB,pC]
     refine RegP.skip1 (by (simp only [gA,gB,gC]); rfl) (by exact fun _ _ _ h => h) (by rfl) ?_
     try simp only [Act.put, pA,pB,pC]
     refine RegP.skip1 (by (simp only [gA,gB,gC]); rfl) (by exact fun _ _ _ h => h) (by rfl) ?_
     try simp only [Act.put, pA,pB,pC]
     refine RegP.pure1 (by (simp only [gA,gB,gC]); rfl) (by exact fun _ _ _ h => h) (by rfl) (by intro w'; go_simp; try with_reducible rfl) ?_
     try simp only [Act.put, pA,pB,pC]
     refine RegP.ev1 (by (simp only [gA,gB,gC]); rfl) (fun K hK => ?_)
     go_simp
     refine (need_no _).mono ?_
     rintro e w3 ⟨rfl, rfl⟩
     exact ⟨rfl, Shapes.bad hNo.out hBt.out.drew⟩
    ·have hd1 : decide ((k : Int) ≥ 1) = true := by rw [decide_eq_true_iff]; omega
     have hd2 : decide (1 ≤ (k : Int)) = true := by rw [decide_eq_true_iff]; omega
     have hn0i : (0 : Int) < (N : Int) := by omega
     have hn0 : 0 < N := by omega
     obtain ⟨ad, hA, k0⟩ := text_at hW.out 0 (by rw [hL.out]; omega)
     obtain ⟨v0, hv0⟩ : ∃ y, (w0 :: rest)[0]'(by rw [hL.out]; omega) = y := ⟨_, rfl⟩
     rw [hv0] at k0
     have e0 : ad.add 0 = ad := by simp [Addr.add]
     rw [e0] at k0
     have hv0l : v0.length ≤ 1000000 := by rw [← hv0]; exact hwl _ (List.getElem_mem _)
     have hgd : Hid ((w0 :: rest).getD 0 [] = v0) := by
      show _ = _
      rw [List.getD_eq_getElem?_getD, List.getElem?_eq_getElem (by rw [hL.out]; omega), hv0]; rfl
     subst hA
     have hS5 : Hid ((w1.drew).cell? ad = some (.string (B v0))) := k0
     have hRS : Hid (R = if verbB v0 = true then match outputsE ((w0 :: rest).drop (k + 1)) with
       | none => none
       | some od => if (decide (od.2 ≠ []) == decide (v0 = kInc)) = true then some ⟨v0, ((w0 :: rest).take k).drop 1, false, od.1, od.2⟩ else none
      else none) := by
      show R = _
      rw [hRR.out, shapeW, hk]
      obtain ⟨k', rfl⟩ : ∃ k', k = k' + 1 := ⟨k - 1, by omega⟩
      simp only [hgd.out]
      rfl
     clear hRR hk hv0 hgd e0 k0
     go_wp2_with fail
     refine RegP.regionH (fun w' => w'.cell? ad = some (.string (B v0))) [(0, 0), (0, 1), (0, 2), (0, 4), (0, 5), (1, 6), (2, 3), (2, 7), (0, 8), (0, 9), (2, 10)] (by kernel_rfl) (by kernel_rfl) (by rfl) (by kernel_rfl) (by exact hS5.out) ?_
     refine RegP.pure1 (by (simp only [gA,gB,gC]); rfl) (by exact fun _ _ _ h => h) (by rfl) (by intro w'; go_simp; try with_reducible rfl) ?_
     try simp only [Act.put, pA,pB,pC]
     refine RegP.pure1 (by (simp only [gA,gB,gC]); rfl) (by exact fun _ _ _ h => h) (by rfl) (by intro w'; go_simp; try with_reducible rfl) ?_
     try simp only [Act.put, pA,pB,pC]
     refine RegP.pure1 (by (simp only [gA,gB,gC]); rfl) (by exact fun _ _ _ h => h) (by rfl) (by intro w'; go_simp; try with_reducible rfl) ?_
     try simp only [Act.put, pA,pB,pC]
     refine RegP.pure1 (by (simp only [gA,gB,gC]); rfl) (by exact fun _ _ _ h => h) (by rfl) (by intro w'; go_simp; try with_reducible rfl) ?_
     try simp only [Act.put, pA,pB,pC]
     refine RegP.pure1 (by (simp only [gA,gB,gC]); rfl) (by exact fun _ _ _ h => h) (by rfl) (by intro w'; go_simp; try with_reducible rfl) ?_
     try simp only [Act.put, pA,pB,pC]
     refine RegP.held1 (by (simp only [gA,gB,gC]); rfl) (by exact fun _ _ _ h => h) (by rfl) (by intro w' hS_; (try dsimp only at hS_); go_split_ands; go_simp; try with_reducible rfl) ?_
     try simp only [Act.put, pA,pB,pC]
     refine RegP.ev1 (by (simp only [gA,gB,gC]); rfl) (fun K hK => ?_)
     go_simp
     refine (verbs_any _).mono ?_
     rintro e w3 ⟨rfl, hM, hb3⟩
     have hB3 := Lib.hid (hBt.out.drew.trans (hb3.mono hBt.out.drew.size))
     have hW3 := Lib.hid (Kd.C_below (Kd.C_below hW.out ((Below.refl _ _).drew)) hb3)
     have hS6 : Hid (w3.cell? ad = some (.string (B v0))) := below_cell hb3 hS5.out
     have hlk : (Instr.lookup 110 (.map (some w1.heap.size)) (.string (B v0)) false).run Tryz.prog w3 = .ok ((verbF v0).getD .nilFunc) w3 := hM.look (t := 110) Tryz.underlying110 (zero_verb w3) v0 (by unfold maxLen; omega)
     have hnv := neq_verb v0
     have heg := eqg_verb v0
     clear hM hb3 hS5
     generalize (verbF v0).getD .nilFunc = vf at *
     refine hK.out _ _ ?_ (fun hHeld => ?_)
     ·(try dsimp only); exact hS6.out
     clear hK K
     try simp only [Act.put, pA,pB,pC]
     refine RegP.ev1 (by (simp only [gA,gB,gC]); rfl) (fun K hK => ?_)
     go_simp
     refine hK.out _ _ ?_ (fun hHeld => ?_)
     ·(try dsimp only); exact hS6.out
     clear hK K
     try simp only [Act.put, pA,pB,pC]
     refine RegP.pure1 (by (simp only [gA,gB,gC]); rfl) (by exact fun _ _ _ h => h) (by rfl) (by intro w'; go_simp; try with_reducible rfl) ?_
     try simp only [Act.put, pA,pB,pC]
     refine RegP.pure1 (by (simp only [gA,gB,gC]); rfl) (by exact fun _ _ _ h => h) (by rfl) (by intro w'; go_simp; try with_reducible rfl) ?_
     try simp only [Act.put, pA,pB,pC]
     refine RegP.ev1 (by (simp only [gA,gB,gC]); rfl) (fun K hK => ?_)
     go_simp
     cases hvb : verbB v0 with
     | false =>
      refine (need_no _).mono ?_
      rintro e w4 ⟨rfl, rfl⟩
      exact ⟨rfl, Shapes.bad (by rw [hRS.out, hvb]; rfl) hB3.out⟩
     | true =>
      refine (need_yes _).mono ?_
      rintro e w4 ⟨rfl, rfl⟩
      refine hK.out _ _ ?_ (fun hHeld => ?_)
      ·(try dsimp only); exact hS6.out
      clear hK K
      try simp only [Act.put, pA,pB,pC]
      refine RegP.done1 ?_
      clear hHeld
      try dsimp only
      clear hnv hlk heg
      have hRT : Hid (R = match outputsE ((w0 :: rest).drop (k + 1)) with
        | none => none
        | some od => if (decide (od.2 ≠ []) == decide (v0 = kInc)) = true then some ⟨v0, ((w0 :: rest).take k).drop 1, false, od.1, od.2⟩ else none) := by
       show R = _
       rw [hRS.out, hvb]; rfl
      have hj0 : (0 : Int) ≤ (k : Int) + 1 := by omega
      have hj1 : (k : Int) + 1 ≤ (N : Int) := by omega
      have hj2 : (1 : Int) ≤ (k : Int) := by omega
      have hj3 : (k : Int) ≤ (N : Int) := by omega
      have hwr : IntKind.i64.wrap ((k : Int) + 1) = (k : Int) + 1 := by rw [IntKind.wrap_i64]; omega
      have hDL : Hid (((w0 :: rest).drop (k + 1)).length = N - (k + 1)) := by show _ = _; rw [List.length_drop, hL.out]
      obtain ⟨A6, hA6⟩ : ∃ A6, A6 = if N = k + 1 then some ad else (some ad).map (·.add (k + 1)) := ⟨_, rfl⟩
      have hC6 : Hid (Kd.C Kd.string w3 A6 (N - (k + 1)) (((w0 :: rest).drop (k + 1)).map B)) := by
       have := words_drop (c := N) hW3.out (by rw [hL.out]; exact hle2) (k + 1) (by rw [hL.out]; omega)
       rw [hL.out, ← hA6] at this
       exact this
      have hcut6 : ∀ W : World, (Instr.slice 23 (.slice (some ad) N N) (some (.int .i64 ((k : Int) + 1))) none none).run Tryz.prog W = .ok (.slice A6 (N - (k + 1)) (N - (k + 1))) W := fun W => by
       have := cut_from 23 9 .i64 Tryz.underlying23 hinf 1 hz1 (some ad) N N ((k : Int) + 1) hj0 hj1 W
       rw [show ((k : Int) + 1).toNat = k + 1 by omega, map_add, ← hA6] at this
       exact this
      obtain ⟨A8, hA8⟩ : ∃ A8, A8 = if N = 1 then some ad else (some ad).map (·.add 1) := ⟨_, rfl⟩
      have hC8 : Hid (Kd.C Kd.string w3 A8 (k - 1) ((((w0 :: rest).take k).drop 1).map B)) := by
       have := words_mid (c := N) hW3.out (by rw [hL.out]; exact hle2) k (by rw [hL.out]; omega) (by omega)
       rw [← hA8] at this
       exact this
      have hcut8 : ∀ W : World, (Instr.slice 23 (.slice (some ad) N N) (some (.int .i64 1)) (some (.int .i64 (k : Int))) none).run Tryz.prog W = .ok (.slice A8 (k - 1) (N - 1)) W := fun W => by
       have := cut_mid 23 9 .i64 .i64 Tryz.underlying23 hinf 1 hz1 (some ad) N N 1 (k : Int) (by omega) hj2 hj3 hle2 W
       rw [show ((1 : Int)).toNat = 1 from rfl, show ((k : Int)).toNat = k by omega, map_add, ← hA8] at this
       exact this
      have hO := outputs_any A6 (N - (k + 1)) ((w0 :: rest).drop (k + 1)) w3 (by rw [hDL.out]; exact hC6.out) (by rw [hDL.out]; omega) (by rw [hDL.out]; omega)
      rw [hDL.out] at hO
      have hAL : Hid ((((w0 :: rest).take k).drop 1).length = k - 1) := take1_len (w0 :: rest) k (by rw [hL.out]; omega)
      have hOH := Lib.hid hO
      clear hO hRS hC6 hA6 hA8 hDL
      generalize ((w0 :: rest).take k).drop 1 = args at *
      generalize outputsE ((w0 :: rest).drop (k + 1)) = ro at *
      go_wp2_with fail
      refine hOH.out.mono ?_
      rintro e w5 ⟨hb5, hP⟩
      have hB5 := Lib.hid (hB3.out.trans (hb5.mono hB3.out.size))
      have hS8 : Hid (w5.drew.cell? ad = some (.string (B v0))) := below_cell hb5.drew hS6.out
      have hC8' := Lib.hid (Kd.C_below hC8.out hb5.drew)
      clear hcut6 hOH hwr hC8
      cases ro with
      | none =>
       obtain rfl : e = fl := hP
       exact ⟨rfl, Shapes.bad hRT.out hB5.out⟩
      | some od =>
       obtain ⟨outs, dep⟩ := od
       obtain ⟨c2, rfl, hl2, hC2⟩ := hP
       have hC2' := Lib.hid (Kd.C_below hC2 (Below.refl w5.heap.size w5).drew)
       have hl2' := Lib.hid hl2
       have hk0 : w5.cell? ad = some (.string (B v0)) := hS8.out
       clear hb5 hC2 hl2
       dsimp only at *
       cases hvi : (v0 == [105, 110, 99]) with
       | false =>
        have hvk : Hid (v0 ≠ kInc) := beq_eq_false_iff_ne.1 hvi
        cases dep with
        | nil =>
         have hRU : Hid (R = some ⟨v0, args, false, outs, []⟩) := by
          show R = _
          rw [hRT.out]; simp [hvk.out] <;> exact hvk.out.symm
         go_wp2_with fail
         refine (need_yes _).mono ?_
         rintro e w6 ⟨rfl, rfl⟩
         go_wp2_with fail
         refine RegP.regionH (fun w' => w'.cell? ad = some (.string (B v0))) [(0, 0), (0, 1), (1, 2), (0, 3), (0, 4), (0, 5), (0, 6), (0, 7), (0, 8), (0, 9), (0, 10), (0, 11), (0, 12), (0, 13)] (by kernel_rfl) (by kernel_rfl) (by rfl) (by kernel_rfl) (by exact hS8.out) ?_
         refine RegP.pure1 (by (simp only [gA,gB,gC]); rfl) (by exact fun _ _ _ h => h) (by rfl) (by intro w'; go_simp; try with_reducible rfl) ?_
         try simp only [Act.put, pA,pB,pC]
         refine RegP.pure1 (by (simp only [gA,gB,gC]); rfl) (by exact fun _ _ _ h => h) (by rfl) (by intro w'; go_simp; try with_reducible rfl) ?_
         try simp only [Act.put, pA,pB,pC]
         refine RegP.held1 (by (simp only [gA,gB,gC]); rfl) (by exact fun _ _ _ h => h) (by rfl) (by intro w' hS_; (try dsimp only at hS_); go_split_ands; go_simp; try with_reducible rfl) ?_
         try simp only [Act.put, pA,pB,pC]
         refine RegP.pure1 (by (simp only [gA,gB,gC]); rfl) (by exact fun _ _ _ h => h) (by rfl) (by intro w'; go_simp; try with_reducible rfl) ?_
         try simp only [Act.put, pA,pB,pC]
         refine RegP.pure1 (by (simp only [gA,gB,gC]); rfl) (by exact fun _ _ _ h => h) (by rfl) (by intro w'; go_simp; try with_reducible rfl) ?_
         try simp only [Act.put, pA,pB,pC]
         refine RegP.pure1 (by (simp only [gA,gB,gC]); rfl) (by exact fun _ _ _ h => h) (by rfl) (by intro w'; go_simp; try with_reducible rfl) ?_
         try simp only [Act.put, pA,pB,pC]
         refine RegP.pure1 (by (simp only [gA,gB,gC]); rfl) (by exact fun _ _ _ h => h) (by rfl) (by intro w'; go_simp; try with_reducible rfl) ?_
         try simp only [Act.put, pA,pB,pC]
         refine RegP.pure1 (by (simp only [gA,gB,gC]); rfl) (by exact fun _ _ _ h => h) (by rfl) (by intro w'; go_simp; try with_reducible rfl) ?_
         try simp only [Act.put, pA,pB,pC]
         refine RegP.pure1 (by (simp only [gA,gB,gC]); rfl) (by exact fun _ _ _ h => h) (by rfl) (by intro w'; go_simp; try with_reducible rfl) ?_
         try simp only [Act.put, pA,pB,pC]
         refine RegP.pure1 (by (simp only [gA,gB,gC]); rfl) (by exact fun _ _ _ h => h) (by rfl) (by intro w'; go_simp; try with_reducible rfl) ?_
         try simp only [Act.put, pA,pB,pC]
         refine RegP.pure1 (by (simp only [gA,gB,gC]); rfl) (by exact fun _ _ _ h => h) (by rfl) (by intro w'; go_simp; try with_reducible rfl) ?_
         try simp only [Act.put, pA,pB,pC]
         refine RegP.pure1 (by (simp only [gA,gB,gC]); rfl) (by exact fun _ _ _ h => h) (by rfl) (by intro w'; go_simp; try with_reducible rfl) ?_
         try simp only [Act.put, pA,pB,pC]
         refine RegP.pure1 (by (simp only [gA,gB,gC]); rfl) (by exact fun _ _ _ h => h) (by rfl) (by intro w'; go_simp; try with_reducible rfl) ?_
         try simp only [Act.put, pA,pB,pC]
         refine RegP.pure1 (by (simp only [gA,gB,gC]); rfl) (by exact fun _ _ _ h => h) (by rfl) (by intro w'; go_simp; try with_reducible rfl) ?_
         try simp only [Act.put, pA,pB,pC]
         refine RegP.done1 ?_
         try dsimp only
         go_wp2_with fail
         rw [hRU.out]
         refine bodyPost_ret (v := .tuple #[.string (B v0), .slice A8 (k - 1) (N - 1), .bool false, .slice A6 outs.length c2, .string (B [])]) (by simp [results, Tryz.results63, go_sem]) rfl ⟨hB5.out.drew, A8, N - 1, A6, c2, ?_, ?_, ?_, hl2'.out, hC2'.out⟩
         ·show _ = Ending.returned (.tuple #[_, .slice _ args.length _, _, _, _])
          rw [hAL.out]
         ·show args.length ≤ _
          rw [hAL.out]; omega
         ·show Kd.C _ _ _ args.length _
          rw [hAL.out]; exact hC8'.out
        | cons d0 ds =>
         go_wp2_with fail
         refine (need_no _).mono ?_
         rintro e w6 ⟨rfl, rfl⟩
         exact ⟨rfl, Shapes.bad (by rw [hRT.out]; simp [hvk.out]) hB5.out⟩
       | true =>
        have hvk : Hid (v0 = kInc) := beq_iff_eq.1 hvi
        cases dep with
        | nil =>
         go_wp2_with fail
         refine (need_no _).mono ?_
         rintro e w6 ⟨rfl, rfl⟩
         exact ⟨rfl, Shapes.bad (by rw [hRT.out]; simp [hvk.out]) hB5.out⟩
        | cons d0 ds =>
         have hRU : Hid (R = some ⟨v0, args, false, outs, (d0 :: ds)⟩) := by
          show R = _
          rw [hRT.out]; simp [hvk.out] <;> exact hvk.out.symm
         go_wp2_with fail
         refine (need_yes _).mono ?_
         rintro e w6 ⟨rfl, rfl⟩
         go_wp2_with fail
         refine RegP.regionH (fun w' => w'.cell? ad = some (.string (B v0))) [(0, 0), (0, 1), (1, 2), (0, 3), (0, 4), (0, 5), (0, 6), (0, 7), (0, 8), (0, 9), (0, 10), (0, 11), (0, 12), (0, 13)] (by kernel_rfl) (by kernel_rfl) (by rfl) (by kernel_rfl) (by exact hS8.out) ?_
         refine RegP.pure1 (by (simp only [gA,gB,gC]); rfl) (by exact fun _ _ _ h => h) (by rfl) (by intro w'; go_simp; try with_reducible rfl) ?_
         try simp only [Act.put, pA,pB,pC]
         refine RegP.pure1 (by (simp only [gA,gB,gC]); rfl) (by exact fun _ _ _ h => h) (by rfl) (by intro w'; go_simp; try with_reducible rfl) ?_
         try simp only [Act.put, pA,pB,pC]
         refine RegP.held1 (by (simp only [gA,gB,gC]); rfl) (by exact fun _ _ _ h => h) (by rfl) (by intro w' hS_; (try dsimp only at hS_); go_split_ands; go_simp; try with_reducible rfl) ?_
         try simp only [Act.put, pA,pB,pC]
         refine RegP.pure1 (by (simp only [gA,gB,gC]); rfl) (by exact fun _ _ _ h => h) (by rfl) (by intro w'; go_simp; try with_reducible rfl) ?_
         try simp only [Act.put, pA,pB,pC]
         refine RegP.pure1 (by (simp only [gA,gB,gC]); rfl) (by exact fun _ _ _ h => h) (by rfl) (by intro w'; go_simp; try with_reducible rfl) ?_
         try simp only [Act.put, pA,pB,pC]
         refine RegP.pure1 (by (simp only [gA,gB,gC]); rfl) (by exact fun _ _ _ h => h) (by rfl) (by intro w'; go_simp; try with_reducible rfl) ?_
         try simp only [Act.put, pA,pB,pC]
         refine RegP.pure1 (by (simp only [gA,gB,gC]); rfl) (by exact fun _ _ _ h => h) (by rfl) (by intro w'; go_simp; try with_reducible rfl) ?_
         try simp only [Act.put, pA,pB,pC]
         refine RegP.pure1 (by (simp only [gA,gB,gC]); rfl) (by exact fun _ _ _ h => h) (by rfl) (by intro w'; go_simp; try with_reducible rfl) ?_
         try simp only [Act.put, pA,pB,pC]
         refine RegP.pure1 (by (simp only [gA,gB,gC]); rfl) (by exact fun _ _ _ h => h) (by rfl) (by intro w'; go_simp; try with_reducible rfl) ?_
         try simp only [Act.put, pA,pB,pC]
         refine RegP.pure1 (by (simp only [gA,gB,gC]); rfl) (by exact fun _ _ _ h => h) (by rfl) (by intro w'; go_simp; try with_reducible rfl) ?_
         try simp only [Act.put, pA,pB,pC]
         refine RegP.pure1 (by (simp only [gA,gB,gC]); rfl) (by exact fun _ _ _ h => h) (by rfl) (by intro w'; go_simp; try with_reducible rfl) ?_
         try simp only [Act.put, pA,pB,pC]
         refine RegP.pure1 (by (simp only [gA,gB,gC]); rfl) (by exact fun _ _ _ h => h) (by rfl) (by intro w'; go_simp; try with_reducible rfl) ?_
         try simp only [Act.put, pA,pB,pC]
         refine RegP.pure1 (by (simp only [gA,gB,gC]); rfl) (by exact fun _ _ _ h => h) (by rfl) (by intro w'; go_simp; try with_reducible rfl) ?_
         try simp only [Act.put, pA,pB,pC]
         refine RegP.pure1 (by (simp only [gA,gB,gC]); rfl) (by exact fun _ _ _ h => h) (by rfl) (by intro w'; go_simp; try with_reducible rfl) ?_
         try simp only [Act.put, pA,pB,pC]
         refine RegP.done1 ?_
         try dsimp only
         go_wp2_with fail
         rw [hRU.out]
         refine bodyPost_ret (v := .tuple #[.string (B v0), .slice A8 (k - 1) (N - 1), .bool false, .slice A6 outs.length c2, .string (B (d0 :: ds))]) (by simp [results, Tryz.results63, go_sem]) rfl ⟨hB5.out.drew, A8, N - 1, A6, c2, ?_, ?_, ?_, hl2'.out, hC2'.out⟩
         ·show _ = Ending.returned (.tuple #[_, .slice _ args.length _, _, _, _])
          rw [hAL.out]
         ·show args.length ≤ _
          rw [hAL.out]; omega
         ·show Kd.C _ _ _ args.length _
          rw [hAL.out]; exact hC8'.out
end Go.Proofs.YtnegfigaiomehaaGreatDoor.Ck
end
section
namespace Go.Proofs.YtnegfigaiomehaaGreatDoor.Ck
open Go.RowKit Go.Lib Go.Shelf Go.Maps Go.Proofs.YtnegfigaiomehaaGreatDoorW.PrintWords Go.Proofs.YtnegfigaiomehaaGreatDoorW.PrintLast Go.Proofs.YtnegfigaiomehaaGreatDoorW.PrintMore Go.Proofs.YtnegfigaiomehaaGreatDoor.U Go.Proofs.YtnegfigaiomehaaGreatDoor.P Go.Proofs.YtnegfigaiomehaaGreatDoor.PTh Go.Proofs.YtnegfigaiomehaaGreatDoor.MapV
open Go.Proofs.YtnegfigaiomehaaGreatDoor.Fld (fieldsT)
def ocells (f : Nat → Value) : Nat → List Txt → List Value
 | _, [] => []
 | k, n :: ns => [.string (B n), f k] ++ ocells f (k + 1) ns
theorem ocells_len (f : Nat → Value) : ∀ (l : List Txt) (k : Nat), (ocells f k l).length = l.length * 2
 | [], k => rfl
 | x :: l, k => by simp only [ocells, List.length_append, ocells_len f l (k + 1), List.length_cons, List.length_nil]; omega
theorem ocells_append (f : Nat → Value) : ∀ (l : List Txt) (k : Nat) (n : Txt), ocells f k (l ++ [n]) = ocells f k l ++ [.string (B n), f (k + l.length)]
 | [], k, n => by simp [ocells]
 | x :: l, k, n => by
  simp only [List.cons_append, ocells, ocells_append f l (k + 1) n, List.length_cons, List.append_assoc]
  rw [show k + 1 + l.length = k + (l.length + 1) by omega]
theorem ocells_ext (f g : Nat → Value) : ∀ (l : List Txt) (k : Nat), (∀ j, k ≤ j → j < k + l.length → f j = g j) → ocells f k l = ocells g k l
 | [], k, h => rfl
 | x :: l, k, h => by
  simp only [ocells]
  rw [h k (Nat.le_refl _) (by simp), ocells_ext f g l (k + 1) (fun j h1 h2 => h j (by omega) (by simp; omega))]
theorem ocells_at (f : Nat → Value) : ∀ (l : List Txt) (k j : Nat) (h : j < l.length), ((ocells f k l).drop (j * 2)).take 2 = [.string (B l[j]), f (k + j)]
 | [], k, j, h => absurd h (by simp)
 | x :: l, k, 0, h => by simp [ocells]
 | x :: l, k, j + 1, h => by
  have := ocells_at f l (k + 1) j (by simpa using h)
  rw [show k + 1 + j = k + (j + 1) by omega] at this
  simp only [List.getElem_cons_succ]
  rw [← this, ocells, show (j + 1) * 2 = 2 + j * 2 by omega, ← List.drop_drop]
  rfl
def OutsAt (w : World) (base : Nat) (v : Value) (names : List Txt) (b : Txt) : Prop :=
 ∃ f : Nat → Value, w.ownsRow base 40 2 v names.length (ocells f 0 names) ∧ ∀ j, j < names.length → w.ownsRow base 5 1 (f j) b.length (bcells b)
theorem OutsAt.nil (w : World) (base : Nat) (b : Txt) : OutsAt w base (.slice none 0 0) [] b := ⟨fun _ => undef, World.ownsRow_nil _ _ _ _, fun j h => absurd h (by simp)⟩
theorem OutsAt.form {w : World} {base : Nat} {v : Value} {names : List Txt} {b : Txt} (h : OutsAt w base v names b) : ∃ A c, v = .slice A names.length c := by
 obtain ⟨f, ho, _⟩ := h
 rcases ho.2 with ⟨e, hz⟩ | ⟨g, cap, cur, e, _⟩
 ·exact ⟨none, 0, by rw [e, hz]⟩
 ·exact ⟨_, _, e⟩
theorem OutsAt.move {w w' : World} {base : Nat} {v : Value} {names : List Txt} {b : Txt} (h : OutsAt w base v names b) (hk : ∀ k, base ≤ k → k < w.heap.size → w'.heap[k]? = w.heap[k]?) : OutsAt w' base v names b := by
 obtain ⟨f, ho, hr⟩ := h
 exact ⟨f, own_move ho (fun k e => hk k (own_base ho k e) (own_lt ho k e)), fun j hj => own_move (hr j hj) (fun k e => hk k (own_base (hr j hj) k e) (own_lt (hr j hj) k e))⟩
theorem OutsAt.push {w w4 w8 : World} {base : Nat} {v v4 v8 : Value} {names : List Txt} {nm b : Txt} (h : OutsAt w base v names b) (hb : Below w.heap.size w w4) (h4 : w4.ownsRow base 5 1 v4 b.length (bcells b)) (hg : w4.grownBy w8 v.ownBlock)
  (h8 : ∀ inner, w4.ownsRow base 40 2 v names.length inner → inner.length = names.length * 2 → (∀ f : Nat → Value, inner = ocells f 0 names → w8.ownsRow base 40 2 v8 (names.length + 1) (inner ++ [.string (B nm), v4]))) : OutsAt w8 base v8 (names ++ [nm]) b := by
 obtain ⟨f, ho, hr⟩ := h
 have ho4 := own_move (w1 := w4) ho (fun k e => hb.block k (own_lt ho k e))
 have hne : ∀ (v' : Value), w4.ownsRow base 5 1 v' b.length (bcells b) → ∀ k, v'.ownBlock = some k → some k ≠ v.ownBlock := fun v' h' k e e2 => by
  obtain ⟨cs, e1⟩ := own_typed ho4 k e2.symm
  obtain ⟨cs2, e2⟩ := own_typed h' k e
  rw [e1] at e2
  injection e2 with e2
  injection e2 with _ e2 _
  exact absurd e2 (by decide)
 let f' : Nat → Value := fun j => if j < names.length then f j else v4
 have hf : ocells f' 0 names = ocells f 0 names := ocells_ext _ _ _ _ (fun j _ h2 => by simp only [f']; rw [if_pos (by omega)])
 refine ⟨f', ?_, fun j hj => ?_⟩
 ·have := h8 _ ho4 (ocells_len _ _ _) f rfl
  rw [ocells_append, hf, List.length_append]
  have e : f' (0 + names.length) = v4 := by simp only [f']; rw [if_neg (by omega)]
  rw [e]
  exact this
 ·by_cases h1 : j < names.length
  ·have e : f' j = f j := by simp only [f']; rw [if_pos h1]
   rw [e]
   have h' := own_move (w1 := w4) (hr j h1) (fun k e => hb.block k (own_lt (hr j h1) k e))
   exact own_move h' (fun k e => hg.block k (own_lt h' k e) (hne _ h' k e))
  ·have e : f' j = v4 := by simp only [f']; rw [if_neg h1]
   rw [e]
   exact own_move h4 (fun k e => hg.block k (own_lt h4 k e) (hne _ h4 k e))
theorem OutsAt.C {w : World} {base : Nat} {v : Value} {names : List Txt} {b : Txt} (h : OutsAt w base v names b) : ∃ A c, v = .slice A (names.map fun n => toF ⟨n, b⟩).length c ∧ (names.map fun n => toF ⟨n, b⟩).length ≤ c ∧ Kd.C KF w A (names.map fun n => toF ⟨n, b⟩).length (names.map fun n => toF ⟨n, b⟩) := by
 obtain ⟨f, ho, hr⟩ := h
 refine OwnRow.reads (R := KF.K w) (e := 40) (base := base) ⟨ocells f 0 names, by rw [List.length_map]; exact ho, ?_, ?_⟩
 ·rw [ocells_len, List.length_map]; rfl
 ·intro j p hp
  rw [List.getElem?_map] at hp
  obtain ⟨x, hx, rfl⟩ := Option.map_eq_some_iff.1 hp
  obtain ⟨hj, rfl⟩ := List.getElem?_eq_some_iff.1 hx
  obtain ⟨A0, c0, e0, l0, g0⟩ := own_reads (hr j hj)
  have := ocells_at f names 0 j hj
  rw [Nat.zero_add, e0] at this
  rw [show List.take KF.sz (List.drop (j * KF.sz) (ocells f 0 names)) = _ from this]
  have hl : (toF ⟨names[j], b⟩).f1.length = b.length := ints_len b
  have := k40_mk w (toF ⟨names[j], b⟩) (A1 := A0) (c1 := c0) (by rw [hl]; exact l0) (by rw [hl]; exact g0)
  rw [hl] at this
  exact this
theorem scalar_but {α : Type} {enc : α → Value} {h1 : ∀ x, (enc x).oneCell' = true} {w w' : World} {db : Nat} {cs : Array Value} {t : TypeId} {A : Option Addr} {n : Nat} {xs : List α} (h : (Kd.scalar enc h1).C w A n xs) (hdb : w.heap[db]? = some (.cells cs t (0, 0)))
  (hcs : ∀ x ∈ xs, ∀ j : Nat, cs[j]? ≠ some (enc x)) (hb : But db w w') : (Kd.scalar enc h1).C w' A n xs := by
 refine ⟨h.1, h.2.1, fun hn => ?_⟩
 obtain ⟨ad, rfl, hc⟩ := h.2.2 hn
 refine ⟨ad, rfl, fun j p hj => ?_⟩
 obtain ⟨c, h1', hK, hv⟩ := hc j p hj
 refine ⟨c, h1', hK, fun i u hu => ?_⟩
 have hv' := hv i u hu
 have hK' : c = [enc p] := hK
 subst hK'
 have hu' : u = enc p := by
  cases i with
  | zero => injection hu with hu; exact hu.symm
  | succ i => simp at hu
 subst hu'
 by_cases hbk : (ad.add (j * (Kd.scalar enc h1).sz + i)).block = db
 ·exfalso
  have hp := addr_plain hv'
  rw [hp] at hv'
  rw [hbk, cell_of_heap hdb] at hv'
  exact hcs p (List.mem_of_getElem? hj) _ hv'
 ·exact (World.cell?_of_block (hb.same _ (World.block_lt_of_cell? w _ hv') hbk)).trans hv'
theorem shapeW_words {once : Bool} {ws : List Txt} {s : ShapeL} (h : shapeW once ws = some s) : (∀ a ∈ s.args, a ∈ ws) ∧ s.args.length ≤ ws.length ∧ s.outs.length ≤ ws.length ∧ verbB s.verb = true := by
 unfold shapeW at h
 split at h
 ·cases h
 ·cases h
 ·rename_i k hk
  split at h
  ·rename_i hv
   split at h
   ·cases h
   ·rename_i od ho
    split at h
    ·injection h with h
     subst h
     refine ⟨fun a ha => List.mem_of_mem_take (List.mem_of_mem_drop ha), ?_, ?_, hv⟩
     ·show ((ws.take (k + 1)).drop 1).length ≤ _
      rw [List.length_drop, List.length_take]; omega
     ·show od.1.length ≤ _
      have hl : (ws.drop (k + 2)).length ≤ ws.length := by rw [List.length_drop]; omega
      refine Nat.le_trans ?_ hl
      unfold outputsE at ho
      split at ho
      ·split at ho
       ·split at ho
        ·injection ho with ho; subst ho; show (List.take _ _).length ≤ _; rw [List.length_take]; omega
        ·cases ho
       ·cases ho
      ·split at ho
       ·injection ho with ho; subst ho; exact Nat.le_refl _
       ·cases ho
    ·cases h
  ·cases h
theorem shapeE_words {c : Txt} {s : ShapeL} (h : shapeE c = some s) : (∀ a ∈ s.args, a ∈ fieldsT c) ∧ s.args.length ≤ (fieldsT c).length ∧ s.outs.length ≤ (fieldsT c).length ∧ verbB s.verb = true := by
 unfold shapeE at h
 split at h
 ·rename_i hf
  have := shapeW_words h
  rw [hf]; exact this
 ·rename_i w ws hf
  rw [hf]
  split at h
  ·obtain ⟨h1, h2, h3, h4⟩ := shapeW_words h
   exact ⟨fun a ha => List.mem_cons_of_mem _ (h1 a ha), by rw [List.length_cons]; omega, by rw [List.length_cons]; omega, h4⟩
  ·exact shapeW_words h
theorem Fld_short (cmd a : Txt) (h : a ∈ fieldsT cmd) : a.length ≤ cmd.length := fieldsGo_short cmd.length cmd [] (by simp) a h
end Go.Proofs.YtnegfigaiomehaaGreatDoor.Ck
end
section
namespace Go.Proofs.YtnegfigaiomehaaGreatDoor.Tp
open Go.RowKit Go.Lib Go.Proofs.YtnegfigaiomehaaGreatDoor.U Go.Proofs.YtnegfigaiomehaaGreatDoor.P Go.Proofs.YtnegfigaiomehaaGreatDoor.MapV Go.Proofs.YtnegfigaiomehaaGreatDoor.Ck
theorem linesP_ext {fs fs' : List FileL} (hf : ∀ nm, findL fs' nm = findL fs nm) {r r' : PS → Txt → Option PS} (hr : ∀ s b, r' s b = r s b) : ∀ (ls : List Txt) (s : PS), linesP fs' r' ls s = linesP fs r ls s
 | [], s => rfl
 | l :: ls, s => by
  rw [linesP, linesP]
  cases inclL l with
  | none =>
   simp only
   split
   ·exact linesP_ext hf hr ls _
   ·rfl
  | some nm =>
   simp only [hf nm]
   cases findL fs nm with
   | none => rfl
   | some own =>
    simp only [hr]
    split
    ·cases r ⟨s.out, addF s.found nm, s.many + 1⟩ own with
     | none => rfl
     | some s2 => exact linesP_ext hf hr ls _
    ·rfl
theorem putsE_ext {fs fs' : List FileL} (hf : ∀ nm, findL fs' nm = findL fs nm) : ∀ (k : Nat) (s : PS) (b : Txt), putsE fs' k s b = putsE fs k s b
 | 0, _, _ => rfl
 | k + 1, s, b => linesP_ext hf (putsE_ext hf k) _ _
theorem argE_ext {v v' : Env} (hd : v'.decl = v.decl) (hf : ∀ nm, findL v'.fs nm = findL v.fs nm) (nm : Txt) : argE v' nm = argE v nm := by
 unfold argE; rw [hf, hd]
theorem allE_ext {v v' : Env} (hd : v'.decl = v.decl) (hf : ∀ nm, findL v'.fs nm = findL v.fs nm) : ∀ (args : List Txt) (out : Txt), allE v' out args = allE v out args
 | [], out => rfl
 | a :: rs, out => by
  rw [allE, allE, argE_ext hd hf]
  cases argE v a with
  | none => rfl
  | some b =>
   simp only
   split
   ·exact allE_ext hd hf rs _
   ·rfl
theorem gatherE_ext {v v' : Env} (hd : v'.decl = v.decl) (hf : ∀ nm, findL v'.fs nm = findL v.fs nm) : ∀ (args : List Txt) (out : Txt), gatherE v' out args = gatherE v out args
 | [], out => rfl
 | a :: rs, out => by
  rw [gatherE, gatherE, argE_ext hd hf]
  cases argE v a with
  | none => rfl
  | some b => exact gatherE_ext hd hf rs _
theorem oneE_ext {v v' : Env} (hd : v'.decl = v.decl) (hf : ∀ nm, findL v'.fs nm = findL v.fs nm) (args : List Txt) : oneE v' args = oneE v args := by
 match args with
 | [a] => exact argE_ext hd hf a
 | [] => rfl
 | _ :: _ :: _ => rfl
theorem doE_ext {v v' : Env} (hd : v'.decl = v.decl) (hf : ∀ nm, findL v'.fs nm = findL v.fs nm) (verb : Txt) (args : List Txt) : doE v' verb args = doE v verb args := by
 unfold doE sumE incE
 rw [allE_ext hd hf, oneE_ext hd hf, gatherE_ext hd hf]
 simp only [putsE_ext hf]
theorem cookE_ext {c : Txt} {v v' : Env} (hd : v'.decl = v.decl) (hf : ∀ nm, findL v'.fs nm = findL v.fs nm) : cookE c v' = cookE c v := by
 unfold cookE
 simp only [doE_ext hd hf]
structure EdgeL where
 outs : List Txt
 ins : List Txt
 imp : List Txt
 ord : List Txt
 cmd : Txt
 dep : Txt
def needsL (e : EdgeL) : List Txt := e.ins ++ e.imp ++ e.ord
def makerL (es : List EdgeL) (f : Txt) : Option Nat := es.findIdx? fun e => e.outs.contains f
def Once (es : List EdgeL) : Prop := (es.flatMap EdgeL.outs).Nodup
theorem maker_at {es : List EdgeL} {f : Txt} {k : Nat} (h : makerL es f = some k) : ∃ e, es[k]? = some e ∧ f ∈ e.outs := by
 unfold makerL at h
 rw [List.findIdx?_eq_some_iff_getElem] at h
 obtain ⟨h1, h2, _⟩ := h
 exact ⟨es[k], List.getElem?_eq_getElem h1, by simpa using h2⟩
theorem once_two {es : List EdgeL} (h : Once es) {i j : Nat} {a b : EdgeL} {f : Txt} (hi : es[i]? = some a) (hj : es[j]? = some b) (ha : f ∈ a.outs) (hb : f ∈ b.outs) : i = j := by
 unfold Once List.Nodup at h
 rw [List.pairwise_flatMap] at h
 obtain ⟨hi1, rfl⟩ := List.getElem?_eq_some_iff.1 hi
 obtain ⟨hj1, rfl⟩ := List.getElem?_eq_some_iff.1 hj
 have h2 := List.pairwise_iff_getElem.1 h.2
 rcases Nat.lt_trichotomy i j with hlt | he | hlt
 ·exact absurd rfl (h2 i j hi1 hj1 hlt f ha f hb)
 ·exact he
 ·exact absurd rfl (h2 j i hj1 hi1 hlt f hb f ha)
theorem maker_iff {es : List EdgeL} (h : Once es) {f : Txt} {k : Nat} : makerL es f = some k ↔ ∃ e, es[k]? = some e ∧ f ∈ e.outs := by
 refine ⟨maker_at, ?_⟩
 rintro ⟨e, he, hf⟩
 cases hm : makerL es f with
 | none =>
  unfold makerL at hm
  rw [List.findIdx?_eq_none_iff] at hm
  have := hm e (List.mem_of_getElem? he)
  simp [hf] at this
 | some j =>
  obtain ⟨a, ha, hfa⟩ := maker_at hm
  rw [once_two h ha he hfa hf]
theorem maker_none {es : List EdgeL} {f : Txt} : makerL es f = none ↔ ∀ e ∈ es, f ∉ e.outs := by
 unfold makerL
 rw [List.findIdx?_eq_none_iff]
 simp
theorem maker_lt {es : List EdgeL} {f : Txt} {k : Nat} (h : makerL es f = some k) : k < es.length := by
 obtain ⟨e, he, _⟩ := maker_at h
 exact (List.getElem?_eq_some_iff.1 he).1
def Ah (es : List EdgeL) (n k : Nat) : Prop := ∃ e, es[n]? = some e ∧ ∃ f ∈ needsL e, makerL es f = some k
theorem Ah.lt {es : List EdgeL} {n k : Nat} (h : Ah es n k) : k < es.length := by
 obtain ⟨_, _, _, _, hm⟩ := h
 exact maker_lt hm
inductive Star (es : List EdgeL) : Nat → Nat → Prop
 | refl (n : Nat) : Star es n n
 | step {n k m : Nat} : Ah es n k → Star es k m → Star es n m
theorem Star.trans {es : List EdgeL} {a b c : Nat} (h : Star es a b) (k : Star es b c) : Star es a c := by
 induction h with
 | refl => exact k
 | step h1 _ ih => exact .step h1 (ih k)
theorem Star.snoc {es : List EdgeL} {a b c : Nat} (h : Star es a b) (k : Ah es b c) : Star es a c := h.trans (.step k (.refl _))
def Above (es : List EdgeL) (n k : Nat) : Prop := ∃ j, Ah es n j ∧ Star es j k
structure OrderOf (es : List EdgeL) (some out : List Nat) : Prop where
 nd : out.Nodup
 sub : ∀ n ∈ out, n ∈ some
 topo : ∀ (i : Nat) (h : i < out.length) (k : Nat), Ah es out[i] k → k ∈ out.take i
 max : ∀ n ∈ some, n ∉ out → ∃ k, Ah es n k ∧ k ∉ out
def Ranked (es : List EdgeL) : Prop := ∃ rank : Nat → Nat, ∀ n k, Ah es n k → rank k < rank n
theorem Ah.src {es : List EdgeL} {n k : Nat} (h : Ah es n k) : n < es.length := by
 obtain ⟨e, he, _⟩ := h
 exact (List.getElem?_eq_some_iff.1 he).1
theorem ranked_of {es : List EdgeL} {out : List Nat} (h : OrderOf es (List.range es.length) out) (hl : es.length ≤ out.length) : Ranked es := by
 have hall : ∀ n, n < es.length → n ∈ out := by
  intro n hn
  have hsub : out ⊆ List.range es.length := fun x hx => h.sub x hx
  by_cases hm : n ∈ out
  ·exact hm
  ·exfalso
   have h1 : (n :: out).Nodup := List.nodup_cons.2 ⟨hm, h.nd⟩
   have h2 : (n :: out) ⊆ List.range es.length := by
    intro x hx
    rcases List.mem_cons.1 hx with rfl | hx
    ·exact List.mem_range.2 hn
    ·exact hsub hx
   have h3 := List.Nodup.length_le_of_subset h1 h2
   rw [List.length_cons, List.length_range] at h3
   omega
 refine ⟨fun n => out.idxOf n, fun n k hk => ?_⟩
 have hn := hall n hk.src
 have hi := List.idxOf_lt_length_of_mem hn
 have hk2 := h.topo (out.idxOf n) hi k (by rw [List.getElem_idxOf]; exact hk)
 obtain ⟨j, hj, he⟩ := List.mem_iff_getElem.1 hk2
 rw [List.getElem_take] at he
 rw [List.length_take] at hj
 have : out.idxOf k ≤ j := by
  rcases Nat.lt_or_ge j (out.idxOf k) with hlt | hge
  ·exact absurd he (by have := List.not_of_lt_findIdx (p := (· == k)) (xs := out) hlt; simpa using this)
  ·exact hge
 show out.idxOf k < out.idxOf n
 omega
theorem order_all {es : List EdgeL} (hr : Ranked es) {some out : List Nat} (h : OrderOf es some out) (hc : ∀ n ∈ some, ∀ k, Ah es n k → k ∈ some) : ∀ n ∈ some, n ∈ out := by
 obtain ⟨rank, hrk⟩ := hr
 have key : ∀ (d n : Nat), rank n ≤ d → n ∈ some → n ∈ out := by
  intro d
  induction d with
  | zero =>
   intro n hd hn
   by_cases hm : n ∈ out
   ·exact hm
   ·obtain ⟨k, h1, _⟩ := h.max n hn hm
    have := hrk n k h1
    omega
  | succ d ih =>
   intro n hd hn
   by_cases hm : n ∈ out
   ·exact hm
   ·obtain ⟨k, h1, h2⟩ := h.max n hn hm
    have := hrk n k h1
    exact absurd (ih k (by omega) (hc n hn k h1)) h2
 exact fun n hn => key (rank n) n (Nat.le_refl _) hn
theorem order_full {es : List EdgeL} (hr : Ranked es) {out : List Nat} (h : OrderOf es (List.range es.length) out) : es.length ≤ out.length := by
 have h1 := order_all hr h (fun n hn k hk => List.mem_range.2 hk.lt)
 have h2 := List.Nodup.length_le_of_subset (List.nodup_range (n := es.length)) (fun x hx => h1 x hx)
 rwa [List.length_range] at h2
end Go.Proofs.YtnegfigaiomehaaGreatDoor.Tp
end
section
namespace Go.Proofs.YtnegfigaiomehaaGreatDoor.P
open Go.RowKit Go.Lib Go.Shelf Go.Proofs.YtnegfigaiomehaaGreatDoorW.PrintWords Go.Proofs.YtnegfigaiomehaaGreatDoorW.PrintLast Go.Proofs.YtnegfigaiomehaaGreatDoorW.PrintMore Go.Proofs.YtnegfigaiomehaaGreatDoor.U
theorem infoStr9 : (Tryz.prog.info? 9).map (fun i => (i.zero, i.size, i.bytes)) = some (some (.string ⟨#[]⟩), 1, 16) := by kernel_rfl
theorem zeros_one (z : Value) (n : Nat) (hz : z.cells = #[z]) : (Builtin.zeroCells z.cells n).size = n := by
 rw [hz]; simp [Builtin.zeroCells]
set_option maxRecDepth 100000 in
set_option maxHeartbeats 4000000 in
theorem Grow_nil (n : Nat) (hn : n ≤ 1000000) (w : World) :
  Calls Tryz.prog 56 #[.slice none 0 0, .int .i64 (n : Int)] w fun e w' => ∃ g cap, e = .returned (.slice g 0 cap) ∧ w'.ownsRow w.heap.size 9 1 (.slice g 0 cap) 0 [] ∧ Below w.heap.size w w' := by
 have h1 : decide ((n : Int) < 0) = false := by rw [decide_eq_false_iff_not]; omega
 by_cases h0 : n = 0
 ·subst h0
  go_enter Tryz.func56, Tryz.ntmps56
  go_wp2_with fail
  go_ret
  exact ⟨none, 0, rfl, own_nil _ _ _ _, Below.refl _ _⟩
 ·have h2 : decide ((0 : Int) < (n : Int)) = true := by rw [decide_eq_true_iff]; omega
  obtain ⟨i0, hi, hzz⟩ := Option.map_eq_some_iff.1 infoStr9
  simp only [Prod.mk.injEq] at hzz
  obtain ⟨hz, hs, hb⟩ := hzz
  have hr : (Builtin.append_ #[23, 3] 23 #[.slice none 0 0, .int .i64 (n : Int)]).run Tryz.prog w = .ok (.slice (some ⟨w.heap.size, 0, none⟩) n (grownCap w n 0 9)) (w.drew.alloc (.cells ((#[] : Array Value) ++ Builtin.zeroCells (Value.string ⟨#[]⟩).cells n ++ Builtin.zeroCells (Value.string ⟨#[]⟩).cells (grownCap w n 0 9 - n)) 9)) := by
   have h := Lib.run_append_grow_zeros (P := Tryz.prog) w 23 3 23 9 i0 (.string ⟨#[]⟩) .i64 .i64 Tryz.underlying23 Tryz.underlying3 hi hz none 0 0 [] (run_firstCells_none w.drew i0.size 0 0 0) n (by omega) (by rw [hs]; decide) (by omega) (by omega) (by rw [hb]; omega) (by rw [hb]; exact growslice_fits (by omega) (by omega))
   simpa using h
  have hG := grownCap_ge w n 0 9
  have hGm := grownCap_le_maxLen w n 0 9 (by unfold maxLen; omega)
  have hsz : ((#[] : Array Value) ++ Builtin.zeroCells (Value.string ⟨#[]⟩).cells n ++ Builtin.zeroCells (Value.string ⟨#[]⟩).cells (grownCap w n 0 9 - n)).size = grownCap w n 0 9 := by
   have a1 := zeros_one (.string ⟨#[]⟩) n rfl
   have a2 := zeros_one (.string ⟨#[]⟩) (grownCap w n 0 9 - n) rfl
   rw [Array.size_append, Array.size_append]
   have e1 : (Builtin.zeroCells (Value.string ⟨#[]⟩).cells n).size = n := a1
   have e2 : (Builtin.zeroCells (Value.string ⟨#[]⟩).cells (grownCap w n 0 9 - n)).size = grownCap w n 0 9 - n := a2
   rw [e1, e2]; simp; omega
  generalize (#[] : Array Value) ++ Builtin.zeroCells (Value.string ⟨#[]⟩).cells n ++ Builtin.zeroCells (Value.string ⟨#[]⟩).cells (grownCap w n 0 9 - n) = cells at *
  generalize grownCap w n 0 9 = G at *
  clear hi hz hs hb
  go_enter Tryz.func56, Tryz.ntmps56
  go_wp2_with (at_builtin; go_loud (refine Lib.wpList_append_run _ rfl _ _ _ _ rfl _ _ rfl rfl _ _ hr ?_))
  go_ret
  refine ⟨some ⟨w.heap.size, 0, none⟩, G, rfl, ⟨by simp, .inr ⟨w.heap.size, G, cells, rfl, Nat.le_refl _, ?_, Nat.zero_le _, hGm, by rw [hsz]; omega, by simp⟩⟩, ?_⟩
  ·exact heap_alloc_new w _
  ·exact ((Below.refl _ w).alloc (Nat.le_refl _) _).drew
theorem reps_str2 {R : ByteArray → List Value → Prop} (hR : ∀ x c, R x c → c = [Value.string x]) : ∀ (ps : List ByteArray) (cs : List Value), Reps R 1 ps cs → cs = ps.map Value.string := by
 intro ps cs h
 refine List.ext_getElem? fun j => ?_
 have hl := h.1
 rw [Nat.mul_one] at hl
 by_cases hj : j < ps.length
 ·have h1 := hR _ _ (h.2 j _ (List.getElem?_eq_getElem hj))
  rw [Nat.mul_one] at h1
  have h2 : ((cs.drop j).take 1)[0]? = some (.string ps[j]) := by rw [h1]; rfl
  rw [List.getElem?_take_of_lt (by omega), List.getElem?_drop, Nat.add_zero] at h2
  rw [h2, List.getElem?_map, List.getElem?_eq_getElem hj]; rfl
 ·rw [List.getElem?_eq_none (by omega), List.getElem?_eq_none (by simp; omega)]
structure NRow where
 A : Option Addr
 c : Nat
 l : List (List UInt8)
def RowsAt (w : World) (R : Nat) (rows : List NRow) : Prop := ∀ i (h : i < rows.length), w.cell? ⟨R, i, none⟩ = some (.slice rows[i].A rows[i].l.length rows[i].c) ∧ rows[i].l.length ≤ rows[i].c ∧ Kd.C Kd.string w rows[i].A rows[i].l.length (rows[i].l.map B)
def catL (rows : List NRow) : List (List UInt8) := (rows.map (·.l)).flatten
theorem catL_take (rows : List NRow) (i : Nat) (h : i < rows.length) : catL (rows.take (i + 1)) = catL (rows.take i) ++ rows[i].l := by
 unfold catL; rw [List.take_succ_eq_append_getElem h, List.map_append, List.flatten_append, List.map_cons, List.map_nil, List.flatten_cons, List.flatten_nil, List.append_nil]
theorem catL_le (rows : List NRow) (i : Nat) : (catL (rows.take i)).length ≤ (catL rows).length := by
 have h : rows = rows.take i ++ rows.drop i := (List.take_append_drop i rows).symm
 have : catL rows = catL (rows.take i) ++ catL (rows.drop i) := by
  conv => lhs; rw [h]
  unfold catL; rw [List.map_append, List.flatten_append]
 rw [this]; simp
set_option maxRecDepth 100000 in
set_option maxHeartbeats 8000000 in
theorem Concat_any (R cp : Nat) (rows : List NRow) (w : World) (hA : RowsAt w R rows) (hR : R < w.heap.size) (hn : rows.length ≤ 100) (ht : (catL rows).length ≤ 100000) :
  Calls Tryz.prog 23 #[.slice (some ⟨R, 0, none⟩) rows.length cp] w fun e w' => ∃ v, e = .returned v ∧ w'.ownsRow w.heap.size 9 1 v (catL rows).length ((catL rows).map fun t => Value.string (B t)) ∧ Below w.heap.size w w' := by
 obtain ⟨n, hN⟩ : ∃ n, rows.length = n := ⟨_, rfl⟩
 have hAH := Lib.hid hA
 have hNH := Lib.hid hN
 rw [hN] at hn ⊢
 clear hA hN
 go_enter Tryz.func23, Tryz.ntmps23
 go_wp2_with fail
 go_loopg [3, 11] n (fun gk s3 s11 wr => ∃ i m : Nat, s11 = .int .i64 (i : Int) ∧ i + gk = n ∧ s3 = .int .i64 (m : Int) ∧ Hid (m = (catL (rows.take i)).length) ∧ w = wr)
 case atStart => exact ⟨0, 0, rfl, Nat.zero_add _, rfl, rfl, rfl⟩
 case round =>
  obtain ⟨i, m, rfl, hik, rfl, hm, rfl⟩ := hrel
  cases gk with
  | zero =>
   obtain rfl : i = n := by omega
   have hlt : decide ((i : Int) < (i : Int)) = false := by simp
   have hmm : m ≤ 100000 := by have := catL_le rows i; rw [hm.out]; omega
   have hG := Lib.hid (Grow_nil m (by omega) w)
   go_wp2_with fail
   refine hG.out.mono ?_
   rintro e w1 ⟨g, cap, rfl, hown, hb1⟩
   have hO0 : Hid (Kd.R Kd.string 9 w1 w.heap.size (fun _ => True) (.slice g 0 cap) []) := Kd.R_of_own (enc := Value.string) (by simpa [encs] using hown) (fun _ _ => trivial)
   have hB0 := Lib.hid hb1
   clear hown hb1 hm hG
   go_wp2_with fail
   go_loopg [6, 27] i (fun gk s6 s27 wr => ∃ j : Nat, s27 = .int .i64 (j : Int) ∧ j + gk = i ∧ Hid (Kd.R Kd.string 9 wr w.heap.size (fun _ => True) s6 ((catL (rows.take j)).map B)) ∧ Hid (Below w.heap.size w wr))
   case atStart => exact ⟨0, rfl, Nat.zero_add _, hO0, hB0⟩
   case round =>
    obtain ⟨j, rfl, hjk, hO, hB⟩ := hrel
    cases gk with
    | zero =>
     obtain rfl : i = j := by omega
     have hlt2 : decide ((i : Int) < (i : Int)) = false := by simp
     go_wp2_with fail
     go_ret
     have hfin := hO.out
     rw [List.take_of_length_le (by rw [hNH.out]; omega)] at hfin
     obtain ⟨_, inner, hown, hreps⟩ := hfin
     have hin := reps_str2 (fun _ _ h => h) _ _ hreps
     refine ⟨u6, rfl, ?_, hB.out⟩
     rw [hin, List.length_map, List.map_map] at hown
     exact hown
    | succ gk =>
     have hj : j < rows.length := by rw [hNH.out]; omega
     have hlt2 : decide ((j : Int) < (i : Int)) = true := by rw [decide_eq_true_iff]; omega
     have i1 : (0 : Int) ≤ (j : Int) := by omega
     have i2 : (j : Int) < (i : Int) := by omega
     obtain ⟨c1, c2, c3⟩ := hAH.out j hj
     have c4 := (hB.out.cell (p := ⟨R, j, none⟩) hR).trans c1
     have c5 := Lib.hid (Kd.C_below c3 hB.out)
     have hck := catL_take rows j hj
     have hle := catL_le rows (j + 1)
     rw [hck, List.length_append] at hle
     have hCK := Lib.hid hck
     generalize rows[j] = rw1 at *
     obtain ⟨A1, cp1, l1⟩ := rw1
     simp only at c1 c2 c3 c4 c5 hle hCK
     have hbd : (((catL (rows.take j)).map B).length + l1.length) * 16 ≤ 140737488355328 := by rw [List.length_map]; omega
     clear hck c1 c3
     go_wp2_with (at_builtin; go_loud (refine Kd.R_append_row (w0 := w) Value.string ByteArray.empty (h1 := fun _ => rfl) w.heap.size rfl _ _ 23 9 (.string ⟨#[]⟩) 16 rfl Tryz.underlying23 infoStr9 rfl (by decide) u6 ((catL (rows.take j)).map B) (l1.map B) A1 l1.length cp1 (fun _ => True) rfl rfl (fun _ _ => trivial) hO.out c5.out hB.out hB.out.size hbd ?_))
     intro v1 w1 hR1 hb1 _ _
     have hO1 : Hid (Kd.R Kd.string 9 w1 w.heap.size (fun _ => True) v1 ((catL (rows.take (j + 1))).map B)) := by
      show Kd.R _ _ _ _ _ _ _
      rw [hCK.out, List.map_append]; exact hR1
     have hB1 := Lib.hid hb1
     clear hR1 hb1
     go_wp2_with fail
     go_roundg gk
     case measure => omega
     case rel => exact ⟨j + 1, by first | rfl | simp, by omega, hO1, hB1⟩
  | succ gk =>
   have hin : i < rows.length := by rw [hNH.out]; omega
   have hlt : decide ((i : Int) < (n : Int)) = true := by rw [decide_eq_true_iff]; omega
   obtain ⟨c1, c2, c3⟩ := hAH.out i hin
   have i1 : (0 : Int) ≤ (i : Int) := by omega
   have i2 : (i : Int) < (n : Int) := by omega
   have hck := catL_take rows i hin
   have hle := catL_le rows (i + 1)
   rw [hck, List.length_append, ← hm.out] at hle
   have hm2 : Hid (m + rows[i].l.length = (catL (rows.take (i + 1))).length) := by show _ = _; rw [hck, List.length_append, ← hm.out]
   generalize rows[i] = rw1 at *
   obtain ⟨A1, cp1, l1⟩ := rw1
   simp only at c1 c2 c3 hle hm2
   have hneg : decide ((m : Int) + (l1.length : Int) < 0) = false := by rw [decide_eq_false_iff_not]; omega
   clear hck c3
   go_wp2_with fail
   go_roundg gk
   case measure => omega
   case rel => exact ⟨i + 1, m + l1.length, by first | rfl | simp, by omega, by first | rfl | simp, hm2, rfl⟩
end Go.Proofs.YtnegfigaiomehaaGreatDoor.P
end
section
namespace Go.Proofs.YtnegfigaiomehaaGreatDoor.RegP
open Go Go.Proofs.YtnegfigaiomehaaGreatDoor.RegG
inductive Tree
 | nil
 | cons (t i : Nat) (r : Tree)
 | fork (i1 : Nat) (r1 : Tree) (i2 : Nat) (r2 : Tree)
def treeOk (md : Region.Mode) (ops : Array Oper) : Nat → Tree → Array Bool → Bool
 | _, .nil, l => Region.ready md ops l == []
 | n + 1, .cons t i r, l =>
  (match t with
  | 0 => Region.free md ops l i && (Region.ready md ops l).contains i
  | 1 => Region.free md ops l i && (Region.ready md ops l).contains i
  | 2 => Region.ready md ops l == [i]
  | _ => false) && treeOk md ops n r (l.setIfInBounds i true)
 | n + 1, .fork i1 r1 i2 r2, l => Region.ready md ops l == [i1, i2] && (treeOk md ops n r1 (l.setIfInBounds i1 true) && treeOk md ops n r2 (l.setIfInBounds i2 true))
 | 0, _, _ => false
section
variable {P : Program} {ops : Array Oper} {Q : Exit → Act → World → Prop} {S : World → Prop}
def wpTree (P : Program) (ops : Array Oper) (Q : Exit → Act → World → Prop) (S : World → Prop) : Tree → Act → World → Prop
 | .nil, a, w => Q .normal a w
 | .cons t i r, a, w => ∃ o, ops[i]? = some o ∧
  match t with
  | 0 => ∃ v, (∀ c a w, Q (.panic c) (a.put o.dst v) w → Q (.panic c) a w) ∧ Region.wanted o (yielded ops a.tmps) = true ∧ (∀ w', (execOp a.eval o).run P w' = .ok (.value v) w') ∧ wpTree P ops Q S r (a.put o.dst v) w
  | 1 => ∃ v, (∀ c a w, Q (.panic c) (a.put o.dst v) w → Q (.panic c) a w) ∧ Region.wanted o (yielded ops a.tmps) = true ∧ (∀ w', S w' → (execOp a.eval o).run P w' = .ok (.value v) w') ∧ wpTree P ops Q S r (a.put o.dst v) w
  | _ => ∀ K' : Act → World → Prop, Shut (∀ a w, S w → (S w → wpTree P ops Q S r a w) → K' a w) → if Region.wanted o (yielded ops a.tmps) = true then Oper.wp P o a w K' Q else K' (a.put o.dst undef) w
 | .fork i1 r1 i2 r2, a, w => ∃ o1 o2, ops[i1]? = some o1 ∧ ops[i2]? = some o2 ∧
  (∀ K' : Act → World → Prop, Shut (∀ a w, S w → (S w → wpTree P ops Q S r1 a w) → K' a w) → if Region.wanted o1 (yielded ops a.tmps) = true then Oper.wp P o1 a w K' Q else K' (a.put o1.dst undef) w) ∧
  (∀ K' : Act → World → Prop, Shut (∀ a w, S w → (S w → wpTree P ops Q S r2 a w) → K' a w) → if Region.wanted o2 (yielded ops a.tmps) = true then Oper.wp P o2 a w K' Q else K' (a.put o2.dst undef) w)
theorem any_of_tree (hs : Region.noSelect ops = true) : ∀ (n : Nat) (t : Tree) (l : Array Bool) (a : Act) (w : World), treeOk .any ops n t l = true → S w → wpTree P ops Q S t a w → wpAnyH P .any ops Q S n l a w
 | n, .nil, l, a, w, hok, _, h => by
  cases n <;> exact wpAnyH_done (by simpa [treeOk] using hok) h _
 | n + 1, .cons t i r, l, a, w, hok, hS, h => by
  obtain ⟨o, ho, h⟩ := h
  rcases t with _ | _ | _ | t
  ·replace hok : ((Region.free .any ops l i && (Region.ready .any ops l).contains i) && treeOk .any ops n r (l.setIfInBounds i true)) = true := hok
   obtain ⟨h1, h2⟩ := Bool.and_eq_true_iff.1 hok
   obtain ⟨e2, e3⟩ := Bool.and_eq_true_iff.1 h1
   obtain ⟨v, q1, q2, q3, q4⟩ := h
   exact wpAnyH_take ho hs e2 e3 q1 (.inl ⟨q2, fun w' _ => q3 w'⟩) hS (any_of_tree hs n r _ _ w h2 hS q4)
  ·replace hok : ((Region.free .any ops l i && (Region.ready .any ops l).contains i) && treeOk .any ops n r (l.setIfInBounds i true)) = true := hok
   obtain ⟨h1, h2⟩ := Bool.and_eq_true_iff.1 hok
   obtain ⟨e2, e3⟩ := Bool.and_eq_true_iff.1 h1
   obtain ⟨v, q1, q2, q3, q4⟩ := h
   exact wpAnyH_take ho hs e2 e3 q1 (.inl ⟨q2, q3⟩) hS (any_of_tree hs n r _ _ w h2 hS q4)
  ·replace hok : ((Region.ready .any ops l == [i]) && treeOk .any ops n r (l.setIfInBounds i true)) = true := hok
   obtain ⟨h1, h2⟩ := Bool.and_eq_true_iff.1 hok
   have hr : Region.ready .any ops l = [i] := eq_of_beq h1
   refine wpAnyH_ready hr (by simp) (AllReadyH.cons ho (fun K' hK => ?_) AllReadyH.nil)
   exact h K' (fun a w hS' hW => hK.out a w hS' (fun hS'' => any_of_tree hs n r _ _ w h2 hS'' (hW hS'')))
  ·replace hok : (false && treeOk .any ops n r (l.setIfInBounds i true)) = true := hok
   simp at hok
 | n + 1, .fork i1 r1 i2 r2, l, a, w, hok, hS, h => by
  obtain ⟨o1, o2, ho1, ho2, h1, h2⟩ := h
  replace hok : (Region.ready .any ops l == [i1, i2] && (treeOk .any ops n r1 (l.setIfInBounds i1 true) && treeOk .any ops n r2 (l.setIfInBounds i2 true))) = true := hok
  obtain ⟨e1, e2⟩ := Bool.and_eq_true_iff.1 hok
  obtain ⟨e2, e3⟩ := Bool.and_eq_true_iff.1 e2
  have hr : Region.ready .any ops l = [i1, i2] := eq_of_beq e1
  refine wpAnyH_ready hr (by simp) (AllReadyH.cons ho1 (fun K' hK => ?_) (AllReadyH.cons ho2 (fun K' hK => ?_) AllReadyH.nil))
  ·exact h1 K' (fun a w hS' hW => hK.out a w hS' (fun hS'' => any_of_tree hs n r1 _ _ w e2 hS'' (hW hS'')))
  ·exact h2 K' (fun a w hS' hW => hK.out a w hS' (fun hS'' => any_of_tree hs n r2 _ _ w e3 hS'' (hW hS'')))
 | 0, .cons _ _ _, l, a, w, hok, _, _ => by simp [treeOk] at hok
 | 0, .fork _ _ _ _, l, a, w, hok, _, _ => by simp [treeOk] at hok
theorem regionT {id : Nat} {a : Act} {w : World} (S : World → Prop) (t : Tree) (hm : P.follows .mixedOrders = true) (hs : Region.noSelect ops = true) (hok : treeOk .any ops ops.size t (Array.replicate ops.size false) = true)
  (hS : S w.drew) (h : wpTree P ops Q S t a w.drew) : (Code.region id ops true).wp P Q a w := by
 refine wp_region_held_drew hm hS fun hS' => ?_
 exact any_of_tree hs _ t _ a _ hok hS' h
theorem pureT {i : Nat} {r : Tree} {a : Act} {w : World} {o : Oper} {v : Value} (ho : ops[i]? = some o) (hQ : ∀ c a w, Q (.panic c) (a.put o.dst v) w → Q (.panic c) a w) (hw : Region.wanted o (yielded ops a.tmps) = true)
  (hv : ∀ w', (execOp a.eval o).run P w' = .ok (.value v) w') (h : wpTree P ops Q S r (a.put o.dst v) w) : wpTree P ops Q S (.cons 0 i r) a w := ⟨o, ho, v, hQ, hw, hv, h⟩
theorem heldT {i : Nat} {r : Tree} {a : Act} {w : World} {o : Oper} {v : Value} (ho : ops[i]? = some o) (hQ : ∀ c a w, Q (.panic c) (a.put o.dst v) w → Q (.panic c) a w) (hw : Region.wanted o (yielded ops a.tmps) = true)
  (hv : ∀ w', S w' → (execOp a.eval o).run P w' = .ok (.value v) w') (h : wpTree P ops Q S r (a.put o.dst v) w) : wpTree P ops Q S (.cons 1 i r) a w := ⟨o, ho, v, hQ, hw, hv, h⟩
theorem doneT {a : Act} {w : World} (h : Q .normal a w) : wpTree P ops Q S .nil a w := h
theorem evT {i : Nat} {r : Tree} {a : Act} {w : World} {o : Oper} (ho : ops[i]? = some o)
  (h : ∀ K' : Act → World → Prop, Shut (∀ a w, S w → (S w → wpTree P ops Q S r a w) → K' a w) → if Region.wanted o (yielded ops a.tmps) = true then Oper.wp P o a w K' Q else K' (a.put o.dst undef) w) : wpTree P ops Q S (.cons 2 i r) a w := ⟨o, ho, h⟩
theorem forkT {i1 i2 : Nat} {r1 r2 : Tree} {a : Act} {w : World} {o1 o2 : Oper} (ho1 : ops[i1]? = some o1) (ho2 : ops[i2]? = some o2)
  (h1 : ∀ K' : Act → World → Prop, Shut (∀ a w, S w → (S w → wpTree P ops Q S r1 a w) → K' a w) → if Region.wanted o1 (yielded ops a.tmps) = true then Oper.wp P o1 a w K' Q else K' (a.put o1.dst undef) w)
  (h2 : ∀ K' : Act → World → Prop, Shut (∀ a w, S w → (S w → wpTree P ops Q S r2 a w) → K' a w) → if Region.wanted o2 (yielded ops a.tmps) = true then Oper.wp P o2 a w K' Q else K' (a.put o2.dst undef) w) : wpTree P ops Q S (.fork i1 r1 i2 r2) a w := ⟨o1, o2, ho1, ho2, h1, h2⟩
end
end Go.Proofs.YtnegfigaiomehaaGreatDoor.RegP
end
section
namespace Go.Proofs.YtnegfigaiomehaaGreatDoor.RegP
open Go Go.RowKit Go.Proofs.YtnegfigaiomehaaGreatDoor.RegG
section
variable {P : Program} {ops : Array Oper} {Q : Exit → Act → World → Prop} {S : World → Prop}
theorem pu {i : Nat} {r : List (Nat × Nat)} {a : Act} {w : World} {o : Oper} {v : Value} (h : wpPlan P ops Q S r (a.put o.dst v) w) (ho : ops[i]? = some o := by (simp only [gA,gB,gC]); rfl)
  (hQ : ∀ c a w, Q (.panic c) (a.put o.dst v) w → Q (.panic c) a w := by exact fun _ _ _ h => h) (hw : Region.wanted o (yielded ops a.tmps) = true := by rfl)
  (hv : ∀ w', (execOp a.eval o).run P w' = .ok (.value v) w' := by intro w'; go_simp; try with_reducible rfl) : wpPlan P ops Q S ((0, i) :: r) a w := pure1 ho hQ hw hv h
theorem he {i : Nat} {r : List (Nat × Nat)} {a : Act} {w : World} {o : Oper} {v : Value} (h : wpPlan P ops Q S r (a.put o.dst v) w) (ho : ops[i]? = some o := by (simp only [gA,gB,gC]); rfl)
  (hQ : ∀ c a w, Q (.panic c) (a.put o.dst v) w → Q (.panic c) a w := by exact fun _ _ _ h => h) (hw : Region.wanted o (yielded ops a.tmps) = true := by rfl)
  (hv : ∀ w', S w' → (execOp a.eval o).run P w' = .ok (.value v) w' := by intro w' hS_; (try dsimp only at hS_); go_split_ands; go_simp; try with_reducible rfl) : wpPlan P ops Q S ((1, i) :: r) a w := held1 ho hQ hw hv h
theorem sk {i : Nat} {r : List (Nat × Nat)} {a : Act} {w : World} {o : Oper} (h : wpPlan P ops Q S r (a.put o.dst undef) w) (ho : ops[i]? = some o := by (simp only [gA,gB,gC]); rfl)
  (hQ : ∀ c a w, Q (.panic c) (a.put o.dst undef) w → Q (.panic c) a w := by exact fun _ _ _ h => h) (hw : Region.wanted o (yielded ops a.tmps) = false := by rfl) : wpPlan P ops Q S ((4, i) :: r) a w := skip1 ho hQ hw h
theorem puT {i : Nat} {r : Tree} {a : Act} {w : World} {o : Oper} {v : Value} (h : wpTree P ops Q S r (a.put o.dst v) w) (ho : ops[i]? = some o := by (simp only [gA,gB,gC]); rfl)
  (hQ : ∀ c a w, Q (.panic c) (a.put o.dst v) w → Q (.panic c) a w := by exact fun _ _ _ h => h) (hw : Region.wanted o (yielded ops a.tmps) = true := by rfl)
  (hv : ∀ w', (execOp a.eval o).run P w' = .ok (.value v) w' := by intro w'; go_simp; try with_reducible rfl) : wpTree P ops Q S (.cons 0 i r) a w := pureT ho hQ hw hv h
theorem heT {i : Nat} {r : Tree} {a : Act} {w : World} {o : Oper} {v : Value} (h : wpTree P ops Q S r (a.put o.dst v) w) (ho : ops[i]? = some o := by (simp only [gA,gB,gC]); rfl)
  (hQ : ∀ c a w, Q (.panic c) (a.put o.dst v) w → Q (.panic c) a w := by exact fun _ _ _ h => h) (hw : Region.wanted o (yielded ops a.tmps) = true := by rfl)
  (hv : ∀ w', S w' → (execOp a.eval o).run P w' = .ok (.value v) w' := by intro w' hS_; (try dsimp only at hS_); go_split_ands; go_simp; try with_reducible rfl) : wpTree P ops Q S (.cons 1 i r) a w := heldT ho hQ hw hv h
theorem evq {i : Nat} {r : List (Nat × Nat)} {a : Act} {w : World} {o : Oper} (h : ∀ K' : Act → World → Prop, Shut (∀ a w, S w → (S w → wpPlan P ops Q S r a w) → K' a w) → if Region.wanted o (yielded ops a.tmps) = true then Oper.wp P o a w K' Q else K' (a.put o.dst undef) w)
  (ho : ops[i]? = some o := by (simp only [gA,gB,gC]); rfl) : wpPlan P ops Q S ((2, i) :: r) a w := ev1 ho h
theorem laq {i : Nat} {r : List (Nat × Nat)} {a : Act} {w : World} {o : Oper} (h : ∀ K' : Act → World → Prop, Shut (∀ a w, wpPlan P ops Q S r a w → K' a w) → if Region.wanted o (yielded ops a.tmps) = true then Oper.wp P o a w K' Q else K' (a.put o.dst undef) w)
  (ho : ops[i]? = some o := by (simp only [gA,gB,gC]); rfl) : wpPlan P ops Q S ((3, i) :: r) a w := last1 ho h
def okQ (md : Region.Mode) (ops : Array Oper) : List (Bool × Nat) → Array Bool → Bool
 | [], l => Region.ready md ops l == []
 | (ev, i) :: r, l => (if ev = true then Region.ready md ops l == [i] else Region.free md ops l i && (Region.ready md ops l).contains i) && okQ md ops r (l.setIfInBounds i true)
def wpQ (P : Program) (ops : Array Oper) (Q : Exit → Act → World → Prop) (S : World → Prop) : List (Bool × Nat) → Act → World → Prop
 | [], a, w => Q .normal a w
 | (ev, i) :: r, a, w => ∃ o, ops[i]? = some o ∧
  match ev with
  | false => ∃ v, (∀ c a w, Q (.panic c) (a.put o.dst v) w → Q (.panic c) a w) ∧ ((Region.wanted o (yielded ops a.tmps) = true ∧ ∀ w', S w' → (execOp a.eval o).run P w' = .ok (.value v) w') ∨ (Region.wanted o (yielded ops a.tmps) = false ∧ v = undef)) ∧ wpQ P ops Q S r (a.put o.dst v) w
  | true => ∀ K' : Act → World → Prop, Shut (∀ a w, S w → (S w → wpQ P ops Q S r a w) → K' a w) → if Region.wanted o (yielded ops a.tmps) = true then Oper.wp P o a w K' Q else K' (a.put o.dst undef) w
theorem any_of_Q (hs : Region.noSelect ops = true) : ∀ (plan : List (Bool × Nat)) (l : Array Bool) (a : Act) (w : World), okQ .any ops plan l = true → S w → wpQ P ops Q S plan a w → wpAnyH P .any ops Q S plan.length l a w
 | [], l, a, w, hok, _, h => wpAnyH_done (by simpa [okQ] using hok) h _
 | (ev, i) :: r, l, a, w, hok, hS, h => by
  obtain ⟨o, ho, h⟩ := h
  cases ev with
  | false =>
   replace hok : ((Region.free .any ops l i && (Region.ready .any ops l).contains i) && okQ .any ops r (l.setIfInBounds i true)) = true := hok
   obtain ⟨h1, h2⟩ := Bool.and_eq_true_iff.1 hok
   obtain ⟨e2, e3⟩ := Bool.and_eq_true_iff.1 h1
   obtain ⟨v, q1, q2, q4⟩ := h
   exact wpAnyH_take ho hs e2 e3 q1 q2 hS (any_of_Q hs r _ _ w h2 hS q4)
  | true =>
   replace hok : ((Region.ready .any ops l == [i]) && okQ .any ops r (l.setIfInBounds i true)) = true := hok
   obtain ⟨h1, h2⟩ := Bool.and_eq_true_iff.1 hok
   have hr : Region.ready .any ops l = [i] := eq_of_beq h1
   refine wpAnyH_ready hr (by simp) (AllReadyH.cons ho (fun K' hK => ?_) AllReadyH.nil)
   exact h K' (fun a w hS' hW => hK.out a w hS' (fun hS'' => any_of_Q hs r _ _ w h2 hS'' (hW hS'')))
theorem regionQ {id : Nat} {a : Act} {w : World} (S : World → Prop) (plan : List (Bool × Nat)) (hm : P.follows .mixedOrders = true) (hs : Region.noSelect ops = true) (hl : plan.length = ops.size) (hok : okQ .any ops plan (Array.replicate ops.size false) = true)
  (hS : S w.drew) (h : wpQ P ops Q S plan a w.drew) : (Code.region id ops true).wp P Q a w := by
 refine wp_region_held_drew hm hS fun hS' => ?_
 rw [← hl]
 rw [← hl] at hok
 exact any_of_Q hs plan _ a _ hok hS' h
theorem qp {i : Nat} {r : List (Bool × Nat)} {a : Act} {w : World} {o : Oper} {v : Value} (h : wpQ P ops Q S r (a.put o.dst v) w) (ho : ops[i]? = some o := by (simp only [gA,gB,gC]); rfl)
  (hQ : ∀ c a w, Q (.panic c) (a.put o.dst v) w → Q (.panic c) a w := by exact fun _ _ _ h => h) (hw : Region.wanted o (yielded ops a.tmps) = true := by rfl)
  (hv : ∀ w', (execOp a.eval o).run P w' = .ok (.value v) w' := by intro w'; go_simp; try with_reducible rfl) : wpQ P ops Q S ((false, i) :: r) a w := ⟨o, ho, v, hQ, .inl ⟨hw, fun w' _ => hv w'⟩, h⟩
theorem qh {i : Nat} {r : List (Bool × Nat)} {a : Act} {w : World} {o : Oper} {v : Value} (h : wpQ P ops Q S r (a.put o.dst v) w) (ho : ops[i]? = some o := by (simp only [gA,gB,gC]); rfl)
  (hQ : ∀ c a w, Q (.panic c) (a.put o.dst v) w → Q (.panic c) a w := by exact fun _ _ _ h => h) (hw : Region.wanted o (yielded ops a.tmps) = true := by rfl)
  (hv : ∀ w', S w' → (execOp a.eval o).run P w' = .ok (.value v) w' := by intro w' hS_; (try dsimp only at hS_); go_split_ands; go_simp; try with_reducible rfl) : wpQ P ops Q S ((false, i) :: r) a w := ⟨o, ho, v, hQ, .inl ⟨hw, hv⟩, h⟩
theorem qs {i : Nat} {r : List (Bool × Nat)} {a : Act} {w : World} {o : Oper} (h : wpQ P ops Q S r (a.put o.dst undef) w) (ho : ops[i]? = some o := by (simp only [gA,gB,gC]); rfl)
  (hQ : ∀ c a w, Q (.panic c) (a.put o.dst undef) w → Q (.panic c) a w := by exact fun _ _ _ h => h) (hw : Region.wanted o (yielded ops a.tmps) = false := by rfl) : wpQ P ops Q S ((false, i) :: r) a w := ⟨o, ho, undef, hQ, .inr ⟨hw, rfl⟩, h⟩
theorem qe {i : Nat} {r : List (Bool × Nat)} {a : Act} {w : World} {o : Oper} (h : ∀ K' : Act → World → Prop, Shut (∀ a w, S w → (S w → wpQ P ops Q S r a w) → K' a w) → if Region.wanted o (yielded ops a.tmps) = true then Oper.wp P o a w K' Q else K' (a.put o.dst undef) w)
  (ho : ops[i]? = some o := by (simp only [gA,gB,gC]); rfl) : wpQ P ops Q S ((true, i) :: r) a w := ⟨o, ho, h⟩
theorem qd {a : Act} {w : World} (h : Q .normal a w) : wpQ P ops Q S [] a w := h
end
end Go.Proofs.YtnegfigaiomehaaGreatDoor.RegP
end
section
namespace Go.Proofs.YtnegfigaiomehaaGreatDoor.P
open Go.RowKit Go.Proofs.YtnegfigaiomehaaGreatDoorW.PrintWords Go.Proofs.YtnegfigaiomehaaGreatDoorW.PrintLast Go.Proofs.YtnegfigaiomehaaGreatDoorW.PrintMore
structure S35 where
 f0 : (List ByteArray)
 f1 : (List ByteArray)
 f2 : (List ByteArray)
 f3 : (List ByteArray)
 f4 : ByteArray
 f5 : ByteArray
def z35 : S35 := ⟨([] : List ByteArray), ([] : List ByteArray), ([] : List ByteArray), ([] : List ByteArray), (⟨#[]⟩ : ByteArray), (⟨#[]⟩ : ByteArray)⟩
def k35 : Kd S35 := Kd.iso (Kd.pair (Kd.slice 9 Kd.string) (Kd.pair (Kd.slice 9 Kd.string) (Kd.pair (Kd.slice 9 Kd.string) (Kd.pair (Kd.slice 9 Kd.string) (Kd.pair Kd.string Kd.string))))) (fun x : S35 => (x.f0, x.f1, x.f2, x.f3, x.f4, x.f5))
theorem k35_open {w : World} {x : S35} {cs : List Value} (h : k35.K w x cs) : ∃ A0 c0 A1 c1 A2 c2 A3 c3, cs = [.slice A0 x.f0.length c0, .slice A1 x.f1.length c1, .slice A2 x.f2.length c2, .slice A3 x.f3.length c3, .string x.f4, .string x.f5] ∧ x.f0.length ≤ c0 ∧ Kd.string.C w A0 x.f0.length x.f0 ∧ x.f1.length ≤ c1 ∧ Kd.string.C w A1 x.f1.length x.f1 ∧ x.f2.length ≤ c2 ∧ Kd.string.C w A2 x.f2.length x.f2 ∧ x.f3.length ≤ c3 ∧ Kd.string.C w A3 x.f3.length x.f3 := by
 obtain ⟨_, _, rfl, ⟨A0, c0, rfl, l0, g0⟩, ⟨_, _, rfl, ⟨A1, c1, rfl, l1, g1⟩, ⟨_, _, rfl, ⟨A2, c2, rfl, l2, g2⟩, ⟨_, _, rfl, ⟨A3, c3, rfl, l3, g3⟩, ⟨_, _, rfl, rfl, rfl⟩⟩⟩⟩⟩ := h
 exact ⟨A0, c0, A1, c1, A2, c2, A3, c3, rfl, l0, g0, l1, g1, l2, g2, l3, g3⟩
theorem k35_openM {w : World} {base : Nat} {ok : Nat → Prop} {x : S35} {cs : List Value} (h : k35.M w base ok x cs) : ∃ v0 v1 v2 v3, cs = [v0, v1, v2, v3, .string x.f4, .string x.f5] ∧ Kd.string.R 9 w base ok v0 x.f0 ∧ Kd.string.R 9 w base ok v1 x.f1 ∧ Kd.string.R 9 w base ok v2 x.f2 ∧ Kd.string.R 9 w base ok v3 x.f3 := by
 obtain ⟨_, _, rfl, ⟨v0, rfl, g0⟩, ⟨_, _, rfl, ⟨v1, rfl, g1⟩, ⟨_, _, rfl, ⟨v2, rfl, g2⟩, ⟨_, _, rfl, ⟨v3, rfl, g3⟩, ⟨_, _, rfl, rfl, rfl⟩⟩⟩⟩⟩ := h
 exact ⟨v0, v1, v2, v3, rfl, g0, g1, g2, g3⟩
theorem k35_mk (w : World) (x : S35) {A0 : Option Addr} {c0 : Nat} (l0 : x.f0.length ≤ c0) (g0 : Kd.string.C w A0 x.f0.length x.f0) {A1 : Option Addr} {c1 : Nat} (l1 : x.f1.length ≤ c1) (g1 : Kd.string.C w A1 x.f1.length x.f1) {A2 : Option Addr} {c2 : Nat} (l2 : x.f2.length ≤ c2) (g2 : Kd.string.C w A2 x.f2.length x.f2) {A3 : Option Addr} {c3 : Nat} (l3 : x.f3.length ≤ c3) (g3 : Kd.string.C w A3 x.f3.length x.f3) : k35.K w x [.slice A0 x.f0.length c0, .slice A1 x.f1.length c1, .slice A2 x.f2.length c2, .slice A3 x.f3.length c3, .string x.f4, .string x.f5] := ⟨[.slice A0 x.f0.length c0], [.slice A1 x.f1.length c1, .slice A2 x.f2.length c2, .slice A3 x.f3.length c3, .string x.f4, .string x.f5], rfl, ⟨A0, c0, rfl, l0, g0⟩, ⟨[.slice A1 x.f1.length c1], [.slice A2 x.f2.length c2, .slice A3 x.f3.length c3, .string x.f4, .string x.f5], rfl, ⟨A1, c1, rfl, l1, g1⟩, ⟨[.slice A2 x.f2.length c2], [.slice A3 x.f3.length c3, .string x.f4, .string x.f5], rfl, ⟨A2, c2, rfl, l2, g2⟩, ⟨[.slice A3 x.f3.length c3], [.string x.f4, .string x.f5], rfl, ⟨A3, c3, rfl, l3, g3⟩, ⟨[.string x.f4], [.string x.f5], rfl, rfl, rfl⟩⟩⟩⟩⟩
theorem k35_mkM (w : World) (base : Nat) (ok : Nat → Prop) (x : S35) {v0 : Value} (g0 : Kd.string.R 9 w base ok v0 x.f0) {v1 : Value} (g1 : Kd.string.R 9 w base ok v1 x.f1) {v2 : Value} (g2 : Kd.string.R 9 w base ok v2 x.f2) {v3 : Value} (g3 : Kd.string.R 9 w base ok v3 x.f3) : k35.M w base ok x [v0, v1, v2, v3, .string x.f4, .string x.f5] := ⟨[v0], [v1, v2, v3, .string x.f4, .string x.f5], rfl, ⟨v0, rfl, g0⟩, ⟨[v1], [v2, v3, .string x.f4, .string x.f5], rfl, ⟨v1, rfl, g1⟩, ⟨[v2], [v3, .string x.f4, .string x.f5], rfl, ⟨v2, rfl, g2⟩, ⟨[v3], [.string x.f4, .string x.f5], rfl, ⟨v3, rfl, g3⟩, ⟨[.string x.f4], [.string x.f5], rfl, rfl, rfl⟩⟩⟩⟩⟩
def rd_T35 (xs : List S35) (i : Int) : S35 := xs.getD i.toNat z35
theorem at_T35 {w : World} {A : Option Addr} {n : Nat} {xs : List S35} (h : Kd.C k35 w A n xs) (i : Int) (h0 : 0 ≤ i) (h1 : i < n) : ∃ ad A0 c0 A1 c1 A2 c2 A3 c3, A = some ad ∧ w.cell? (ad.add (i.toNat * 6)) = some (.slice A0 (rd_T35 xs i).f0.length c0) ∧ w.cell? ⟨(ad.add (i.toNat * 6)).block, (ad.add (i.toNat * 6)).off + 1, none⟩ = some (.slice A1 (rd_T35 xs i).f1.length c1) ∧ w.cell? ⟨(ad.add (i.toNat * 6)).block, (ad.add (i.toNat * 6)).off + 2, none⟩ = some (.slice A2 (rd_T35 xs i).f2.length c2) ∧ w.cell? ⟨(ad.add (i.toNat * 6)).block, (ad.add (i.toNat * 6)).off + 3, none⟩ = some (.slice A3 (rd_T35 xs i).f3.length c3) ∧ w.cell? ⟨(ad.add (i.toNat * 6)).block, (ad.add (i.toNat * 6)).off + 4, none⟩ = some (.string (rd_T35 xs i).f4) ∧ w.cell? ⟨(ad.add (i.toNat * 6)).block, (ad.add (i.toNat * 6)).off + 5, none⟩ = some (.string (rd_T35 xs i).f5) ∧ (rd_T35 xs i).f0.length ≤ c0 ∧ Kd.string.C w A0 (rd_T35 xs i).f0.length (rd_T35 xs i).f0 ∧ (rd_T35 xs i).f1.length ≤ c1 ∧ Kd.string.C w A1 (rd_T35 xs i).f1.length (rd_T35 xs i).f1 ∧ (rd_T35 xs i).f2.length ≤ c2 ∧ Kd.string.C w A2 (rd_T35 xs i).f2.length (rd_T35 xs i).f2 ∧ (rd_T35 xs i).f3.length ≤ c3 ∧ Kd.string.C w A3 (rd_T35 xs i).f3.length (rd_T35 xs i).f3 := by
 obtain ⟨ad, c, e, _, hK, hc0⟩ := Kd.C_get h z35 i h0 h1
 have hc : ∀ j u, c[j]? = some u → w.cell? (ad.add (i.toNat * 6 + j)) = some u := hc0
 obtain ⟨A0, c0, A1, c1, A2, c2, A3, c3, rfl, l0, g0, l1, g1, l2, g2, l3, g3⟩ := k35_open hK
 exact ⟨ad, A0, c0, A1, c1, A2, c2, A3, c3, e, hc 0 _ rfl, by rw [← add_field _ _ 1 (by omega)]; exact hc 1 _ rfl, by rw [← add_field _ _ 2 (by omega)]; exact hc 2 _ rfl, by rw [← add_field _ _ 3 (by omega)]; exact hc 3 _ rfl, by rw [← add_field _ _ 4 (by omega)]; exact hc 4 _ rfl, by rw [← add_field _ _ 5 (by omega)]; exact hc 5 _ rfl, l0, g0, l1, g1, l2, g2, l3, g3⟩
end Go.Proofs.YtnegfigaiomehaaGreatDoor.P
namespace Go.Proofs.YtnegfigaiomehaaGreatDoor.Tp
open Go.RowKit Go.Lib Go.Maps Go.Proofs.YtnegfigaiomehaaGreatDoorW.PrintWords Go.Proofs.YtnegfigaiomehaaGreatDoorW.PrintLast Go.Proofs.YtnegfigaiomehaaGreatDoorW.PrintMore Go.Proofs.YtnegfigaiomehaaGreatDoor.U Go.Proofs.YtnegfigaiomehaaGreatDoor.P Go.Proofs.YtnegfigaiomehaaGreatDoor.MapV Go.Proofs.YtnegfigaiomehaaGreatDoor.Ck
abbrev SE := S35
abbrev KE := k35
def toE (e : EdgeL) : SE := ⟨e.outs.map B, e.ins.map B, e.imp.map B, e.ord.map B, B e.cmd, B e.dep⟩
def Str (w : World) (v : Value) (l : List Txt) : Prop := ∃ A c, v = .slice A l.length c ∧ l.length ≤ c ∧ Kd.C Kd.string w A l.length (l.map B)
theorem Str.below {w w' : World} {v : Value} {l : List Txt} (h : Str w v l) (hb : Below w.heap.size w w') : Str w' v l := by
 obtain ⟨A, c, e, hl, h⟩ := h
 exact ⟨A, c, e, hl, Kd.C_below h hb⟩
theorem str_of_R {w : World} {base : Nat} {ok : Nat → Prop} {v : Value} {l : List Txt} (h : Kd.R Kd.string 9 w base ok v (l.map B)) : Str w v l := by
 obtain ⟨A, c, e, hl, h⟩ := Kd.R_reads h
 rw [List.length_map] at e hl h
 exact ⟨A, c, e, hl, h⟩
def EdgeAt (w : World) (cs : List Value) (e : EdgeL) : Prop := ∃ v0 v1 v2 v3, cs = [v0, v1, v2, v3, .string (B e.cmd), .string (B e.dep)] ∧ Str w v0 e.outs ∧ Str w v1 e.ins ∧ Str w v2 e.imp ∧ Str w v3 e.ord
theorem EdgeAt.below {w w' : World} {cs : List Value} {e : EdgeL} (h : EdgeAt w cs e) (hb : Below w.heap.size w w') : EdgeAt w' cs e := by
 obtain ⟨v0, v1, v2, v3, e0, h0, h1, h2, h3⟩ := h
 exact ⟨v0, v1, v2, v3, e0, h0.below hb, h1.below hb, h2.below hb, h3.below hb⟩
theorem edgeAt_K {w : World} {cs : List Value} {e : EdgeL} : EdgeAt w cs e ↔ KE.K w (toE e) cs := by
 constructor
 ·rintro ⟨v0, v1, v2, v3, rfl, ⟨A0, c0, rfl, l0, g0⟩, ⟨A1, c1, rfl, l1, g1⟩, ⟨A2, c2, rfl, l2, g2⟩, ⟨A3, c3, rfl, l3, g3⟩⟩
  have := k35_mk w (toE e) (A0 := A0) (c0 := c0) (by simp [toE]; exact l0) (by simp only [toE, List.length_map]; exact g0) (A1 := A1) (c1 := c1) (by simp [toE]; exact l1) (by simp only [toE, List.length_map]; exact g1) (A2 := A2) (c2 := c2) (by simp [toE]; exact l2) (by simp only [toE, List.length_map]; exact g2) (A3 := A3) (c3 := c3) (by simp [toE]; exact l3) (by simp only [toE, List.length_map]; exact g3)
  simp only [toE, List.length_map] at this
  exact this
 ·intro h
  obtain ⟨A0, c0, A1, c1, A2, c2, A3, c3, rfl, l0, g0, l1, g1, l2, g2, l3, g3⟩ := k35_open h
  simp only [toE, List.length_map] at l0 g0 l1 g1 l2 g2 l3 g3
  simp only [toE, List.length_map]
  exact ⟨_, _, _, _, rfl, ⟨A0, c0, rfl, l0, g0⟩, ⟨A1, c1, rfl, l1, g1⟩, ⟨A2, c2, rfl, l2, g2⟩, ⟨A3, c3, rfl, l3, g3⟩⟩
end Go.Proofs.YtnegfigaiomehaaGreatDoor.Tp
end
section
namespace Go.Proofs.YtnegfigaiomehaaGreatDoor.Tp
open Go.RowKit Go.Lib Go.Shelf Go.Maps Go.Proofs.YtnegfigaiomehaaGreatDoorW.PrintWords Go.Proofs.YtnegfigaiomehaaGreatDoorW.PrintLast Go.Proofs.YtnegfigaiomehaaGreatDoorW.PrintMore Go.Proofs.YtnegfigaiomehaaGreatDoor.U Go.Proofs.YtnegfigaiomehaaGreatDoor.P Go.Proofs.YtnegfigaiomehaaGreatDoor.MapV Go.Proofs.YtnegfigaiomehaaGreatDoor.Ck
theorem lt_blk {w : World} {b : Nat} {o : Obj} (h : w.heap[b]? = some o) : b < w.heap.size := (Array.getElem?_eq_some_iff.1 h).1
theorem below_blk {w w' : World} {b : Nat} {o : Obj} (hb : Below w.heap.size w w') (h : w.heap[b]? = some o) : w'.heap[b]? = some o := (hb.block _ (lt_blk h)).trans h
theorem R_old {α : Type} {d : Kd α} {e base : Nat} {ok : Nat → Prop} {w w1 : World} {v : Value} {xs : List α} (h : Kd.R d e w base ok v xs) (hm : ∀ k, base ≤ k → k < w.heap.size → w1.heap[k]? = w.heap[k]?) : Kd.R d e w1 base ok v xs :=
 Kd.R_mono (Kd.R_move (Kd.R_bound h) (fun k hk => hm k hk.2.1 hk.2.2.1)) (fun _ hk => hk.1)
theorem R_set_old {α : Type} {d : Kd α} {e base : Nat} {ok : Nat → Prop} {w : World} {v : Value} {xs : List α} (h : Kd.R d e w base ok v xs) {b j : Nat} (u : Value) (hb : b < base) : Kd.R d e (w.setCell ⟨b, j, none⟩ u) base ok v xs :=
 R_old h fun k hk _ => Below.heap_setCell w _ u k (by show k ≠ b; omega)
theorem str_cell {w : World} {ad : Addr} {l : List Txt} {n : Nat} (hn : l.length = n) (h : Kd.C Kd.string w (some ad) n (l.map B)) : ∀ j u, (l.map fun t => Value.string (B t))[j]? = some u → w.cell? (ad.add j) = some u := by
 subst hn
 intro j u hj
 rw [List.getElem?_map] at hj
 obtain ⟨t, ht, rfl⟩ := Option.map_eq_some_iff.1 hj
 obtain ⟨hl, he⟩ := List.getElem?_eq_some_iff.1 ht
 obtain ⟨ad', e1, h1⟩ := text_at h j hl
 injection e1 with e1
 subst e1
 rw [← he]; exact h1
theorem run_clone_str (w : World) (a : Option Addr) (n c n' c' : Nat) : (binOp .eql 23 (.slice a n c) (.slice none n' c')).run Tryz.prog w = .ok (.bool a.isNone) w := Lib.run_eql_slice_nil w _ _ a n c n' c' Tryz.underlying23
theorem infoTxt : (Tryz.prog.info? 9).map (fun i => (i.zero, i.size, i.bytes)) = some (some (.string ⟨#[]⟩), 1, 16) := by kernel_rfl
set_option maxRecDepth 100000 in
set_option maxHeartbeats 4000000 in
theorem Clone_any (v : Value) (l : List Txt) (w : World) (h : Str w v l) (hl : l.length ≤ 100000) :
  Calls Tryz.prog 40 #[v] w fun e w' => ∃ v', e = .returned v' ∧ Kd.R Kd.string 9 w' w.heap.size (fun _ => True) v' (l.map B) ∧ Below w.heap.size w w' := by
 obtain ⟨A, c, rfl, _, hc⟩ := h
 have hq := run_clone_str
 have hcH := Lib.hid hc
 clear hc
 obtain ⟨N, hN⟩ : ∃ N, l.length = N := ⟨_, rfl⟩
 have hNH := Lib.hid hN
 rw [hN] at hl hcH ⊢
 cases A with
 | none =>
  have hz : Hid (l = []) := by
   rcases Nat.eq_zero_or_pos N with h | h
   ·exact List.length_eq_zero_iff.1 (by rw [hNH.out]; exact h)
   ·obtain ⟨ad, he, _⟩ := hcH.out.2.2 h
    cases he
  clear hN
  go_enter Tryz.func40, Tryz.ntmps40
  go_wp2_with fail
  go_ret
  rw [hz.out]
  exact ⟨_, rfl, Kd.R_nil _ _ _ _ _, Below.refl _ _⟩
 | some ad =>
  clear hN
  go_enter Tryz.func40, Tryz.ntmps40
  obtain ⟨i0, hi, hz0, hz1, hz2⟩ := info_parts infoTxt
  go_wp2_with (at_builtin; refine wpList_append_own _ rfl _ _ 23 rfl w.heap.size 9 i0 (.string ⟨#[]⟩) 1 16 Tryz.underlying23 hi hz0 hz1 hz2 rfl (by decide) _ _ _ rfl (World.ownsRow_made w #[] 0 (Nat.le_refl _) (Nat.zero_le _) rfl) ad N c (l.map fun t => Value.string (B t)) rfl ?qc1 ?qc2 ?qc3 ?qc4 ?qc5 ?qc6 ?_)
  case qc1 => rw [List.length_map]; have := hNH.out; omega
  case qc2 =>
   intro j u hj
   refine Lib.cell?_alloc_some _ ?_
   exact str_cell hNH.out hcH.out j u hj
  case qc3 => intro u hu; obtain ⟨x, _, rfl⟩ := List.mem_map.1 hu; rfl
  case qc4 => unfold maxLen; omega
  case qc5 => omega
  case qc6 => simp
  intro v' w1 hown hgrow hnil
  go_wp2_with fail
  go_ret
  refine ⟨v', rfl, ?_, ?_⟩
  ·rw [← hNH.out] at hown
   exact Kd.R_of_own (enc := Value.string) (by simpa [encs, Function.comp_def] using hown) (fun _ _ => trivial)
  ·exact ((Below.refl _ w).alloc (Nat.le_refl _) _).grown hgrow (by simp) (by intro k hk; simp [Value.ownBlock] at hk; omega)
set_option maxRecDepth 100000 in
set_option maxHeartbeats 8000000 in
theorem needs_any (cs : List Value) (e : EdgeL) (w : World) (h : EdgeAt w cs e) (hn : (needsL e).length ≤ 100000) :
  Calls Tryz.prog 43 #[.agg cs.toArray] w fun x w' => ∃ v, x = .returned v ∧ Kd.R Kd.string 9 w' w.heap.size (fun _ => True) v ((needsL e).map B) ∧ Below w.heap.size w w' := by
 obtain ⟨v0, v1, v2, v3, rfl, ⟨A0, c0, rfl, l0, g0⟩, ⟨A1, c1, rfl, l1, g1⟩, ⟨A2, c2, rfl, l2, g2⟩, ⟨A3, c3, rfl, l3, g3⟩⟩ := h
 have hcat : catL [⟨A1, c1, e.ins⟩, ⟨A2, c2, e.imp⟩, ⟨A3, c3, e.ord⟩] = needsL e := by simp [catL, needsL, List.flatten]
 have hb1 : Below w.heap.size w (w.alloc (.cells #[.slice A0 e.outs.length c0, .slice A1 e.ins.length c1, .slice A2 e.imp.length c2, .slice A3 e.ord.length c3, .string (B e.cmd), .string (B e.dep)] 35)) := (Below.refl _ _).alloc (Nat.le_refl _) _
 have hb2 := hb1.alloc hb1.size (.cells #[.slice A1 e.ins.length c1, .slice A2 e.imp.length c2, .slice A3 e.ord.length c3] 23)
 have hx := heap_alloc_new (w.alloc (.cells #[.slice A0 e.outs.length c0, .slice A1 e.ins.length c1, .slice A2 e.imp.length c2, .slice A3 e.ord.length c3, .string (B e.cmd), .string (B e.dep)] 35)) (.cells #[.slice A1 e.ins.length c1, .slice A2 e.imp.length c2, .slice A3 e.ord.length c3] 23)
 rw [World.size_alloc] at hx
 have hC : Hid (Calls Tryz.prog 23 #[.slice (some ⟨w.heap.size + 1, 0, none⟩) 3 3] ((w.alloc (.cells #[.slice A0 e.outs.length c0, .slice A1 e.ins.length c1, .slice A2 e.imp.length c2, .slice A3 e.ord.length c3, .string (B e.cmd), .string (B e.dep)] 35)).alloc (.cells #[.slice A1 e.ins.length c1, .slice A2 e.imp.length c2, .slice A3 e.ord.length c3] 23)) fun x w' => ∃ v, x = .returned v ∧ w'.ownsRow (w.heap.size + 1 + 1) 9 1 v (needsL e).length ((needsL e).map fun t => Value.string (B t)) ∧ Below (w.heap.size + 1 + 1) ((w.alloc (.cells #[.slice A0 e.outs.length c0, .slice A1 e.ins.length c1, .slice A2 e.imp.length c2, .slice A3 e.ord.length c3, .string (B e.cmd), .string (B e.dep)] 35)).alloc (.cells #[.slice A1 e.ins.length c1, .slice A2 e.imp.length c2, .slice A3 e.ord.length c3] 23)) w') := by
  have := Concat_any (w.heap.size + 1) 3 [⟨A1, c1, e.ins⟩, ⟨A2, c2, e.imp⟩, ⟨A3, c3, e.ord⟩] ((w.alloc (.cells #[.slice A0 e.outs.length c0, .slice A1 e.ins.length c1, .slice A2 e.imp.length c2, .slice A3 e.ord.length c3, .string (B e.cmd), .string (B e.dep)] 35)).alloc (.cells #[.slice A1 e.ins.length c1, .slice A2 e.imp.length c2, .slice A3 e.ord.length c3] 23)) (by
   intro i hi
   match i, hi with
   | 0, _ => exact ⟨(cell_of_heap (j := 0) hx).trans rfl, l1, Kd.C_below g1 hb2⟩
   | 1, _ => exact ⟨(cell_of_heap (j := 1) hx).trans rfl, l2, Kd.C_below g2 hb2⟩
   | 2, _ => exact ⟨(cell_of_heap (j := 2) hx).trans rfl, l3, Kd.C_below g3 hb2⟩) (by simp) (by simp) (by rw [hcat]; exact hn)
  rw [hcat] at this
  exact Lib.hid (by simpa using this)
 have hB2 := Lib.hid hb2
 clear hb1 hb2 hx hcat g0 g1 g2 g3
 go_enter Tryz.func43, Tryz.ntmps43
 go_wp2_with fail
 refine hC.out.mono ?_
 rintro x w1 ⟨v, rfl, ho, hb⟩
 have hR : Hid (Kd.R Kd.string 9 w1 w.heap.size (fun _ => True) v ((needsL e).map B)) := Kd.R_lower (Kd.R_of_own (enc := Value.string) (by simpa [encs, Function.comp_def] using ho) (fun _ _ => trivial)) (by omega)
 have hB := Lib.hid (hB2.out.trans (hb.mono (by omega)))
 clear ho hb
 go_wp2_with fail
 go_ret
 exact ⟨v, rfl, hR.out, hB.out⟩
def Few4 (e : EdgeL) : Prop := e.outs.length ≤ 100000 ∧ e.ins.length ≤ 100000 ∧ e.imp.length ≤ 100000 ∧ e.ord.length ≤ 100000
set_option maxRecDepth 100000 in
set_option maxHeartbeats 16000000 in
theorem copied_any (cs : List Value) (e : EdgeL) (w : World) (h : EdgeAt w cs e) (hL : Few4 e) :
  Calls Tryz.prog 41 #[.agg cs.toArray] w fun x w' => ∃ cs', x = .returned (.agg cs'.toArray) ∧ KE.M w' w.heap.size (fun _ => True) (toE e) cs' ∧ Below w.heap.size w w' := by
 obtain ⟨v0, v1, v2, v3, rfl, ⟨A0, c0, rfl, l0, g0⟩, ⟨A1, c1, rfl, l1, g1⟩, ⟨A2, c2, rfl, l2, g2⟩, ⟨A3, c3, rfl, l3, g3⟩⟩ := h
 have hLH := Lib.hid hL
 clear hL
 have hL := hLH
 clear hLH
 obtain ⟨W, hW⟩ : ∃ W, (w.alloc (.cells #[.slice A0 e.outs.length c0, .slice A1 e.ins.length c1, .slice A2 e.imp.length c2, .slice A3 e.ord.length c3, .string (B e.cmd), .string (B e.dep)] 35)).alloc (.cells #[.slice none 0 0, .slice none 0 0, .slice none 0 0, .slice none 0 0, .string ⟨#[]⟩, .string ⟨#[]⟩] 35) = W := ⟨_, rfl⟩
 have hbw : Below w.heap.size w W := by rw [← hW]; exact ((Below.refl _ _).alloc (Nat.le_refl _) _).alloc (by simp) _
 have hBW := Lib.hid hbw
 have hz : Hid (W.heap.size = w.heap.size + 1 + 1) := by show _ = _; rw [← hW]; simp
 have hby : Hid (W.heap[w.heap.size + 1]? = some (.cells #[.slice none 0 0, .slice none 0 0, .slice none 0 0, .slice none 0 0, .string ⟨#[]⟩, .string ⟨#[]⟩] 35 (0, 0))) := by
  have := heap_alloc_new (w.alloc (.cells #[.slice A0 e.outs.length c0, .slice A1 e.ins.length c1, .slice A2 e.imp.length c2, .slice A3 e.ord.length c3, .string (B e.cmd), .string (B e.dep)] 35)) (.cells #[.slice none 0 0, .slice none 0 0, .slice none 0 0, .slice none 0 0, .string ⟨#[]⟩, .string ⟨#[]⟩] 35)
  rw [World.size_alloc, hW] at this; exact this
 have hbx : Hid (W.heap[w.heap.size]? = some (.cells #[.slice A0 e.outs.length c0, .slice A1 e.ins.length c1, .slice A2 e.imp.length c2, .slice A3 e.ord.length c3, .string (B e.cmd), .string (B e.dep)] 35 (0, 0))) := by
  have h1 := heap_alloc_new w (.cells #[.slice A0 e.outs.length c0, .slice A1 e.ins.length c1, .slice A2 e.imp.length c2, .slice A3 e.ord.length c3, .string (B e.cmd), .string (B e.dep)] 35)
  have h2 := (Below.refl (w.alloc (.cells #[.slice A0 e.outs.length c0, .slice A1 e.ins.length c1, .slice A2 e.imp.length c2, .slice A3 e.ord.length c3, .string (B e.cmd), .string (B e.dep)] 35)).heap.size (w.alloc (.cells #[.slice A0 e.outs.length c0, .slice A1 e.ins.length c1, .slice A2 e.imp.length c2, .slice A3 e.ord.length c3, .string (B e.cmd), .string (B e.dep)] 35))).alloc (Nat.le_refl _) (.cells #[.slice none 0 0, .slice none 0 0, .slice none 0 0, .slice none 0 0, .string ⟨#[]⟩, .string ⟨#[]⟩] 35)
  rw [hW] at h2
  exact below_blk h2 h1
 have hSt0 : Hid (Str W (.slice A0 e.outs.length c0) e.outs) := Lib.hid ⟨A0, c0, rfl, l0, Kd.C_below g0 hbw⟩
 have hSt1 : Hid (Str W (.slice A1 e.ins.length c1) e.ins) := Lib.hid ⟨A1, c1, rfl, l1, Kd.C_below g1 hbw⟩
 have hSt2 : Hid (Str W (.slice A2 e.imp.length c2) e.imp) := Lib.hid ⟨A2, c2, rfl, l2, Kd.C_below g2 hbw⟩
 have hSt3 : Hid (Str W (.slice A3 e.ord.length c3) e.ord) := Lib.hid ⟨A3, c3, rfl, l3, Kd.C_below g3 hbw⟩
 have hS : Hid (∀ W', Below W.heap.size W W' → (fun w' => w'.cell? ⟨w.heap.size, 0, none⟩ = some (.slice A0 e.outs.length c0) ∧ w'.cell? ⟨w.heap.size, 1, none⟩ = some (.slice A1 e.ins.length c1) ∧ w'.cell? ⟨w.heap.size, 2, none⟩ = some (.slice A2 e.imp.length c2) ∧ w'.cell? ⟨w.heap.size, 3, none⟩ = some (.slice A3 e.ord.length c3)) W') := Lib.hid (fun W' hW' => ⟨(cell_of_heap (j := 0) (below_blk hW' hbx.out)).trans rfl, (cell_of_heap (j := 1) (below_blk hW' hbx.out)).trans rfl, (cell_of_heap (j := 2) (below_blk hW' hbx.out)).trans rfl, (cell_of_heap (j := 3) (below_blk hW' hbx.out)).trans rfl⟩)
 have hWH := Lib.hid hW
 clear hW hbw l0 l1 l2 l3 g0 g1 g2 g3
 go_enter Tryz.func41, Tryz.ntmps41
 go_upto_region 1 with (fail)
 rw [hWH.out]
 clear hWH
 have hB0 : Hid (Below W.heap.size W W.drew) := (Below.refl _ _).drew
 refine RegP.region (fun w' => w'.cell? ⟨w.heap.size, 0, none⟩ = some (.slice A0 e.outs.length c0) ∧ w'.cell? ⟨w.heap.size, 1, none⟩ = some (.slice A1 e.ins.length c1) ∧ w'.cell? ⟨w.heap.size, 2, none⟩ = some (.slice A2 e.imp.length c2) ∧ w'.cell? ⟨w.heap.size, 3, none⟩ = some (.slice A3 e.ord.length c3)) 13 [(0, 0), (1, 1), (0, 3), (1, 4), (0, 6), (1, 7), (0, 9), (1, 10), (2, 2), (0, 12), (2, 5), (2, 8), (2, 11), (3, 13), (0, 14), (3, 15), (0, 16), (3, 17), (0, 18), (3, 19)] (by kernel_rfl) (by kernel_rfl) (by rfl) (by kernel_rfl) (by exact hS.out _ (Below.refl _ _).drew) ?_
 repeat ((first | refine RegP.pu ?_ | refine RegP.he ?_ | refine RegP.sk ?_); try simp only [Act.put, pA,pB,pC])
 refine RegP.evq (fun K hK => ?_)
 go_simp
 refine (Clone_any _ e.outs _ (hSt0.out.below hB0.out) (hL.out.1)).mono ?_
 rintro x y1 ⟨v1, rfl, hR, hb⟩
 obtain ⟨E0, d0, rfl, hl, hC⟩ := str_of_R hR
 have hB1 : Hid (Below W.heap.size W y1) := Lib.hid (hB0.out.trans (hb.mono hB0.out.size))
 have hR01 : Hid (Kd.R Kd.string 9 y1 (w.heap.size + 1 + 1) (fun _ => True) (.slice E0 e.outs.length d0) (e.outs.map B)) := Lib.hid (Kd.R_lower hR (by have := hB0.out.size; rw [hz.out] at this; exact this))
 clear hR hb hl hC
 refine hK.out _ _ ?_ (fun hHeld => ?_)
 ·(try dsimp only); exact hS.out _ hB1.out
 clear hK K
 try simp only [Act.put, pA,pB,pC]
 repeat ((first | refine RegP.pu ?_ | refine RegP.he ?_ | refine RegP.sk ?_); try simp only [Act.put, pA,pB,pC])
 refine RegP.evq (fun K hK => ?_)
 go_simp
 refine (Clone_any _ e.ins _ (hSt1.out.below hB1.out) (hL.out.2.1)).mono ?_
 rintro x y2 ⟨v2, rfl, hR, hb⟩
 obtain ⟨E1, d1, rfl, hl, hC⟩ := str_of_R hR
 have hB2 : Hid (Below W.heap.size W y2) := Lib.hid (hB1.out.trans (hb.mono hB1.out.size))
 have hR02 := Lib.hid (Kd.R_below hR01.out hb)
 have hR12 : Hid (Kd.R Kd.string 9 y2 (w.heap.size + 1 + 1) (fun _ => True) (.slice E1 e.ins.length d1) (e.ins.map B)) := Lib.hid (Kd.R_lower hR (by have := hB1.out.size; rw [hz.out] at this; exact this))
 clear hR hb hl hC
 refine hK.out _ _ ?_ (fun hHeld => ?_)
 ·(try dsimp only); exact hS.out _ hB2.out
 clear hK K
 try simp only [Act.put, pA,pB,pC]
 refine RegP.evq (fun K hK => ?_)
 go_simp
 refine (Clone_any _ e.imp _ (hSt2.out.below hB2.out) (hL.out.2.2.1)).mono ?_
 rintro x y3 ⟨v3, rfl, hR, hb⟩
 obtain ⟨E2, d2, rfl, hl, hC⟩ := str_of_R hR
 have hB3 : Hid (Below W.heap.size W y3) := Lib.hid (hB2.out.trans (hb.mono hB2.out.size))
 have hR03 := Lib.hid (Kd.R_below hR02.out hb)
 have hR13 := Lib.hid (Kd.R_below hR12.out hb)
 have hR23 : Hid (Kd.R Kd.string 9 y3 (w.heap.size + 1 + 1) (fun _ => True) (.slice E2 e.imp.length d2) (e.imp.map B)) := Lib.hid (Kd.R_lower hR (by have := hB2.out.size; rw [hz.out] at this; exact this))
 clear hR hb hl hC
 refine hK.out _ _ ?_ (fun hHeld => ?_)
 ·(try dsimp only); exact hS.out _ hB3.out
 clear hK K
 try simp only [Act.put, pA,pB,pC]
 refine RegP.evq (fun K hK => ?_)
 go_simp
 refine (Clone_any _ e.ord _ (hSt3.out.below hB3.out) (hL.out.2.2.2)).mono ?_
 rintro x y4 ⟨v4, rfl, hR, hb⟩
 obtain ⟨E3, d3, rfl, hl, hC⟩ := str_of_R hR
 have hB4 : Hid (Below W.heap.size W y4) := Lib.hid (hB3.out.trans (hb.mono hB3.out.size))
 have hR04 := Lib.hid (Kd.R_below hR03.out hb)
 have hR14 := Lib.hid (Kd.R_below hR13.out hb)
 have hR24 := Lib.hid (Kd.R_below hR23.out hb)
 have hR34 : Hid (Kd.R Kd.string 9 y4 (w.heap.size + 1 + 1) (fun _ => True) (.slice E3 e.ord.length d3) (e.ord.map B)) := Lib.hid (Kd.R_lower hR (by have := hB3.out.size; rw [hz.out] at this; exact this))
 clear hR hb hl hC
 refine hK.out _ _ ?_ (fun hHeld => ?_)
 ·(try dsimp only); exact hS.out _ hB4.out
 clear hK K
 try simp only [Act.put, pA,pB,pC]
 refine RegP.laq (fun K hK => ?_)
 have hx0 := Lib.hid (below_blk hB4.out hbx.out)
 have hy0 := Lib.hid (below_blk hB4.out hby.out)
 have c19 := (cell_of_heap (j := 0) hx0.out).trans rfl
 have f19 := frozen_of_heap hx0.out 0
 go_simp
 clear c19 f19
 have hR05 := Lib.hid (R_set_old (j := 0) hR04.out (.slice E0 e.outs.length d0) (by omega : w.heap.size < w.heap.size + 1 + 1))
 have hR15 := Lib.hid (R_set_old (j := 0) hR14.out (.slice E0 e.outs.length d0) (by omega : w.heap.size < w.heap.size + 1 + 1))
 have hR25 := Lib.hid (R_set_old (j := 0) hR24.out (.slice E0 e.outs.length d0) (by omega : w.heap.size < w.heap.size + 1 + 1))
 have hR35 := Lib.hid (R_set_old (j := 0) hR34.out (.slice E0 e.outs.length d0) (by omega : w.heap.size < w.heap.size + 1 + 1))
 have hx1 : Hid ((y4.setCell ⟨w.heap.size, 0, none⟩ (.slice E0 e.outs.length d0)).heap[w.heap.size]? = some (.cells #[.slice E0 e.outs.length d0, .slice A1 e.ins.length c1, .slice A2 e.imp.length c2, .slice A3 e.ord.length c3, .string (B e.cmd), .string (B e.dep)] 35 (0, 0))) := blk_put hx0.out 0 _ rfl
 have hy1 : Hid ((y4.setCell ⟨w.heap.size, 0, none⟩ (.slice E0 e.outs.length d0)).heap[w.heap.size + 1]? = some (.cells #[.slice none 0 0, .slice none 0 0, .slice none 0 0, .slice none 0 0, .string ⟨#[]⟩, .string ⟨#[]⟩] 35 (0, 0))) := Lib.hid ((Below.heap_setCell _ _ _ _ (by show w.heap.size + 1 ≠ w.heap.size; omega)).trans hy0.out)
 have hD1 : Hid (Below w.heap.size w (y4.setCell ⟨w.heap.size, 0, none⟩ (.slice E0 e.outs.length d0))) := Lib.hid ((hBW.out.trans (hB4.out.mono hBW.out.size)).setCell (by show _ ≤ w.heap.size; omega) _)
 generalize y4.setCell ⟨w.heap.size, 0, none⟩ (.slice E0 e.outs.length d0) = z1 at *
 refine hK.out _ _ ?_
 clear hK K
 try simp only [Act.put, pA,pB,pC]
 repeat ((first | refine RegP.pu ?_ | refine RegP.he ?_ | refine RegP.sk ?_); try simp only [Act.put, pA,pB,pC])
 refine RegP.laq (fun K hK => ?_)
 have c19 := (cell_of_heap (j := 1) hx1.out).trans rfl
 have f19 := frozen_of_heap hx1.out 1
 go_simp
 clear c19 f19
 have hR06 := Lib.hid (R_set_old (j := 1) hR05.out (.slice E1 e.ins.length d1) (by omega : w.heap.size < w.heap.size + 1 + 1))
 have hR16 := Lib.hid (R_set_old (j := 1) hR15.out (.slice E1 e.ins.length d1) (by omega : w.heap.size < w.heap.size + 1 + 1))
 have hR26 := Lib.hid (R_set_old (j := 1) hR25.out (.slice E1 e.ins.length d1) (by omega : w.heap.size < w.heap.size + 1 + 1))
 have hR36 := Lib.hid (R_set_old (j := 1) hR35.out (.slice E1 e.ins.length d1) (by omega : w.heap.size < w.heap.size + 1 + 1))
 have hx2 : Hid ((z1.setCell ⟨w.heap.size, 1, none⟩ (.slice E1 e.ins.length d1)).heap[w.heap.size]? = some (.cells #[.slice E0 e.outs.length d0, .slice E1 e.ins.length d1, .slice A2 e.imp.length c2, .slice A3 e.ord.length c3, .string (B e.cmd), .string (B e.dep)] 35 (0, 0))) := blk_put hx1.out 1 _ rfl
 have hy2 : Hid ((z1.setCell ⟨w.heap.size, 1, none⟩ (.slice E1 e.ins.length d1)).heap[w.heap.size + 1]? = some (.cells #[.slice none 0 0, .slice none 0 0, .slice none 0 0, .slice none 0 0, .string ⟨#[]⟩, .string ⟨#[]⟩] 35 (0, 0))) := Lib.hid ((Below.heap_setCell _ _ _ _ (by show w.heap.size + 1 ≠ w.heap.size; omega)).trans hy1.out)
 have hD2 : Hid (Below w.heap.size w (z1.setCell ⟨w.heap.size, 1, none⟩ (.slice E1 e.ins.length d1))) := Lib.hid (hD1.out.setCell (by show _ ≤ w.heap.size; omega) _)
 generalize z1.setCell ⟨w.heap.size, 1, none⟩ (.slice E1 e.ins.length d1) = z2 at *
 refine hK.out _ _ ?_
 clear hK K
 try simp only [Act.put, pA,pB,pC]
 repeat ((first | refine RegP.pu ?_ | refine RegP.he ?_ | refine RegP.sk ?_); try simp only [Act.put, pA,pB,pC])
 refine RegP.laq (fun K hK => ?_)
 have c19 := (cell_of_heap (j := 2) hx2.out).trans rfl
 have f19 := frozen_of_heap hx2.out 2
 go_simp
 clear c19 f19
 have hR07 := Lib.hid (R_set_old (j := 2) hR06.out (.slice E2 e.imp.length d2) (by omega : w.heap.size < w.heap.size + 1 + 1))
 have hR17 := Lib.hid (R_set_old (j := 2) hR16.out (.slice E2 e.imp.length d2) (by omega : w.heap.size < w.heap.size + 1 + 1))
 have hR27 := Lib.hid (R_set_old (j := 2) hR26.out (.slice E2 e.imp.length d2) (by omega : w.heap.size < w.heap.size + 1 + 1))
 have hR37 := Lib.hid (R_set_old (j := 2) hR36.out (.slice E2 e.imp.length d2) (by omega : w.heap.size < w.heap.size + 1 + 1))
 have hx3 : Hid ((z2.setCell ⟨w.heap.size, 2, none⟩ (.slice E2 e.imp.length d2)).heap[w.heap.size]? = some (.cells #[.slice E0 e.outs.length d0, .slice E1 e.ins.length d1, .slice E2 e.imp.length d2, .slice A3 e.ord.length c3, .string (B e.cmd), .string (B e.dep)] 35 (0, 0))) := blk_put hx2.out 2 _ rfl
 have hy3 : Hid ((z2.setCell ⟨w.heap.size, 2, none⟩ (.slice E2 e.imp.length d2)).heap[w.heap.size + 1]? = some (.cells #[.slice none 0 0, .slice none 0 0, .slice none 0 0, .slice none 0 0, .string ⟨#[]⟩, .string ⟨#[]⟩] 35 (0, 0))) := Lib.hid ((Below.heap_setCell _ _ _ _ (by show w.heap.size + 1 ≠ w.heap.size; omega)).trans hy2.out)
 have hD3 : Hid (Below w.heap.size w (z2.setCell ⟨w.heap.size, 2, none⟩ (.slice E2 e.imp.length d2))) := Lib.hid (hD2.out.setCell (by show _ ≤ w.heap.size; omega) _)
 generalize z2.setCell ⟨w.heap.size, 2, none⟩ (.slice E2 e.imp.length d2) = z3 at *
 refine hK.out _ _ ?_
 clear hK K
 try simp only [Act.put, pA,pB,pC]
 repeat ((first | refine RegP.pu ?_ | refine RegP.he ?_ | refine RegP.sk ?_); try simp only [Act.put, pA,pB,pC])
 refine RegP.laq (fun K hK => ?_)
 have c19 := (cell_of_heap (j := 3) hx3.out).trans rfl
 have f19 := frozen_of_heap hx3.out 3
 go_simp
 clear c19 f19
 have hR08 := Lib.hid (R_set_old (j := 3) hR07.out (.slice E3 e.ord.length d3) (by omega : w.heap.size < w.heap.size + 1 + 1))
 have hR18 := Lib.hid (R_set_old (j := 3) hR17.out (.slice E3 e.ord.length d3) (by omega : w.heap.size < w.heap.size + 1 + 1))
 have hR28 := Lib.hid (R_set_old (j := 3) hR27.out (.slice E3 e.ord.length d3) (by omega : w.heap.size < w.heap.size + 1 + 1))
 have hR38 := Lib.hid (R_set_old (j := 3) hR37.out (.slice E3 e.ord.length d3) (by omega : w.heap.size < w.heap.size + 1 + 1))
 have hx4 : Hid ((z3.setCell ⟨w.heap.size, 3, none⟩ (.slice E3 e.ord.length d3)).heap[w.heap.size]? = some (.cells #[.slice E0 e.outs.length d0, .slice E1 e.ins.length d1, .slice E2 e.imp.length d2, .slice E3 e.ord.length d3, .string (B e.cmd), .string (B e.dep)] 35 (0, 0))) := blk_put hx3.out 3 _ rfl
 have hy4 : Hid ((z3.setCell ⟨w.heap.size, 3, none⟩ (.slice E3 e.ord.length d3)).heap[w.heap.size + 1]? = some (.cells #[.slice none 0 0, .slice none 0 0, .slice none 0 0, .slice none 0 0, .string ⟨#[]⟩, .string ⟨#[]⟩] 35 (0, 0))) := Lib.hid ((Below.heap_setCell _ _ _ _ (by show w.heap.size + 1 ≠ w.heap.size; omega)).trans hy3.out)
 have hD4 : Hid (Below w.heap.size w (z3.setCell ⟨w.heap.size, 3, none⟩ (.slice E3 e.ord.length d3))) := Lib.hid (hD3.out.setCell (by show _ ≤ w.heap.size; omega) _)
 generalize z3.setCell ⟨w.heap.size, 3, none⟩ (.slice E3 e.ord.length d3) = z4 at *
 refine hK.out _ _ ?_
 clear hK K
 try simp only [Act.put, pA,pB,pC]
 refine RegP.done1 ?_
 try dsimp only
 clear hB1 hB2 hB3 hB4 hx0 hx1 hx2 hx3 hy0 hy1 hy2 hy3 hD1 hD2 hD3
 clear hR01
 clear hR02
 clear hR03
 clear hR04
 clear hR05
 clear hR06
 clear hR07
 clear hR12
 clear hR13
 clear hR14
 clear hR15
 clear hR16
 clear hR17
 clear hR23
 clear hR24
 clear hR25
 clear hR26
 clear hR27
 clear hR34
 clear hR35
 clear hR36
 clear hR37
 have x0 := (cell_of_heap (j := 0) hx4.out).trans rfl
 have x1 := (cell_of_heap (j := 1) hx4.out).trans rfl
 have x2 := (cell_of_heap (j := 2) hx4.out).trans rfl
 have x3 := (cell_of_heap (j := 3) hx4.out).trans rfl
 have x4 := (cell_of_heap (j := 4) hx4.out).trans rfl
 have x5 := (cell_of_heap (j := 5) hx4.out).trans rfl
 have q0 := (cell_of_heap (j := 0) hy4.out).trans rfl
 have q1 := (cell_of_heap (j := 1) hy4.out).trans rfl
 have q2 := (cell_of_heap (j := 2) hy4.out).trans rfl
 have q3 := (cell_of_heap (j := 3) hy4.out).trans rfl
 have q4 := (cell_of_heap (j := 4) hy4.out).trans rfl
 have q5 := (cell_of_heap (j := 5) hy4.out).trans rfl
 have qf0 := frozen_of_heap hy4.out 0
 have qf1 := frozen_of_heap hy4.out 1
 have qf2 := frozen_of_heap hy4.out 2
 have qf3 := frozen_of_heap hy4.out 3
 have qf4 := frozen_of_heap hy4.out 4
 have qf5 := frozen_of_heap hy4.out 5
 have m0_0 := hR08
 have m1_0 := hR18
 have m2_0 := hR28
 have m3_0 := hR38
 have m0_1 := Lib.hid (R_set_old (j := 0) m0_0.out (.slice E0 e.outs.length d0) (by omega : w.heap.size + 1 < w.heap.size + 1 + 1))
 have m1_1 := Lib.hid (R_set_old (j := 0) m1_0.out (.slice E0 e.outs.length d0) (by omega : w.heap.size + 1 < w.heap.size + 1 + 1))
 have m2_1 := Lib.hid (R_set_old (j := 0) m2_0.out (.slice E0 e.outs.length d0) (by omega : w.heap.size + 1 < w.heap.size + 1 + 1))
 have m3_1 := Lib.hid (R_set_old (j := 0) m3_0.out (.slice E0 e.outs.length d0) (by omega : w.heap.size + 1 < w.heap.size + 1 + 1))
 have m0_2 := Lib.hid (R_set_old (j := 1) m0_1.out (.slice E1 e.ins.length d1) (by omega : w.heap.size + 1 < w.heap.size + 1 + 1))
 have m1_2 := Lib.hid (R_set_old (j := 1) m1_1.out (.slice E1 e.ins.length d1) (by omega : w.heap.size + 1 < w.heap.size + 1 + 1))
 have m2_2 := Lib.hid (R_set_old (j := 1) m2_1.out (.slice E1 e.ins.length d1) (by omega : w.heap.size + 1 < w.heap.size + 1 + 1))
 have m3_2 := Lib.hid (R_set_old (j := 1) m3_1.out (.slice E1 e.ins.length d1) (by omega : w.heap.size + 1 < w.heap.size + 1 + 1))
 have m0_3 := Lib.hid (R_set_old (j := 2) m0_2.out (.slice E2 e.imp.length d2) (by omega : w.heap.size + 1 < w.heap.size + 1 + 1))
 have m1_3 := Lib.hid (R_set_old (j := 2) m1_2.out (.slice E2 e.imp.length d2) (by omega : w.heap.size + 1 < w.heap.size + 1 + 1))
 have m2_3 := Lib.hid (R_set_old (j := 2) m2_2.out (.slice E2 e.imp.length d2) (by omega : w.heap.size + 1 < w.heap.size + 1 + 1))
 have m3_3 := Lib.hid (R_set_old (j := 2) m3_2.out (.slice E2 e.imp.length d2) (by omega : w.heap.size + 1 < w.heap.size + 1 + 1))
 have m0_4 := Lib.hid (R_set_old (j := 3) m0_3.out (.slice E3 e.ord.length d3) (by omega : w.heap.size + 1 < w.heap.size + 1 + 1))
 have m1_4 := Lib.hid (R_set_old (j := 3) m1_3.out (.slice E3 e.ord.length d3) (by omega : w.heap.size + 1 < w.heap.size + 1 + 1))
 have m2_4 := Lib.hid (R_set_old (j := 3) m2_3.out (.slice E3 e.ord.length d3) (by omega : w.heap.size + 1 < w.heap.size + 1 + 1))
 have m3_4 := Lib.hid (R_set_old (j := 3) m3_3.out (.slice E3 e.ord.length d3) (by omega : w.heap.size + 1 < w.heap.size + 1 + 1))
 have m0_5 := Lib.hid (R_set_old (j := 4) m0_4.out (.string (B e.cmd)) (by omega : w.heap.size + 1 < w.heap.size + 1 + 1))
 have m1_5 := Lib.hid (R_set_old (j := 4) m1_4.out (.string (B e.cmd)) (by omega : w.heap.size + 1 < w.heap.size + 1 + 1))
 have m2_5 := Lib.hid (R_set_old (j := 4) m2_4.out (.string (B e.cmd)) (by omega : w.heap.size + 1 < w.heap.size + 1 + 1))
 have m3_5 := Lib.hid (R_set_old (j := 4) m3_4.out (.string (B e.cmd)) (by omega : w.heap.size + 1 < w.heap.size + 1 + 1))
 have m0_6 := Lib.hid (R_set_old (j := 5) m0_5.out (.string (B e.dep)) (by omega : w.heap.size + 1 < w.heap.size + 1 + 1))
 have m1_6 := Lib.hid (R_set_old (j := 5) m1_5.out (.string (B e.dep)) (by omega : w.heap.size + 1 < w.heap.size + 1 + 1))
 have m2_6 := Lib.hid (R_set_old (j := 5) m2_5.out (.string (B e.dep)) (by omega : w.heap.size + 1 < w.heap.size + 1 + 1))
 have m3_6 := Lib.hid (R_set_old (j := 5) m3_5.out (.string (B e.dep)) (by omega : w.heap.size + 1 < w.heap.size + 1 + 1))
 go_wp2_with fail
 refine bodyPost_ret (results_cell_row rfl _ _ (w.heap.size + 1) 35 #[.slice E0 e.outs.length d0, .slice E1 e.ins.length d1, .slice E2 e.imp.length d2, .slice E3 e.ord.length d3, .string (B e.cmd), .string (B e.dep)] (0, 0) _ rfl (blk_put (blk_put (blk_put (blk_put (blk_put (blk_put hy4.out 0 _ rfl) 1 _ rfl) 2 _ rfl) 3 _ rfl) 4 _ rfl) 5 _ rfl) Tryz.underlying35 rfl (by kernel_rfl)) rfl ?_
 refine ⟨[.slice E0 e.outs.length d0, .slice E1 e.ins.length d1, .slice E2 e.imp.length d2, .slice E3 e.ord.length d3, .string (B e.cmd), .string (B e.dep)], rfl, ?_, ((((((hD4.out.setCell (by show _ ≤ w.heap.size + 1; omega) _).setCell (by show _ ≤ w.heap.size + 1; omega) _).setCell (by show _ ≤ w.heap.size + 1; omega) _).setCell (by show _ ≤ w.heap.size + 1; omega) _).setCell (by show _ ≤ w.heap.size + 1; omega) _).setCell (by show _ ≤ w.heap.size + 1; omega) _)⟩
 have hk := k35_mkM ((((((z4.setCell ⟨w.heap.size + 1, 0, none⟩ (.slice E0 e.outs.length d0)).setCell ⟨w.heap.size + 1, 1, none⟩ (.slice E1 e.ins.length d1)).setCell ⟨w.heap.size + 1, 2, none⟩ (.slice E2 e.imp.length d2)).setCell ⟨w.heap.size + 1, 3, none⟩ (.slice E3 e.ord.length d3)).setCell ⟨w.heap.size + 1, 4, none⟩ (.string (B e.cmd))).setCell ⟨w.heap.size + 1, 5, none⟩ (.string (B e.dep))) w.heap.size (fun _ => True) (toE e) (Kd.R_lower m0_6.out (by omega)) (Kd.R_lower m1_6.out (by omega)) (Kd.R_lower m2_6.out (by omega)) (Kd.R_lower m3_6.out (by omega))
 exact hk
end Go.Proofs.YtnegfigaiomehaaGreatDoor.Tp
end
section
namespace Go.Proofs.YtnegfigaiomehaaGreatDoor.MapI
open Go.RowKit Go.Lib Go.Maps Go.WideMaps Go.WideElems Go.Proofs.YtnegfigaiomehaaGreatDoor.U
theorem ikeyed : Keyed Tryz.prog 3 := int_keyed Tryz.underlying3
abbrev MapInt := Int → Option Value
def updI (m : MapInt) (k : Int) (v : Value) : MapInt := fun x => if x = k then some v else m x
def noneI : MapInt := fun _ => none
def Rv (v : Value) : Option (DataW Value × List MemPlace) := some (.held v, [])
def OwnsI (w : World) (b n : Nat) (m : MapInt) : Prop :=
 ∃ D : DataW Value, w.ownsMap Tryz.prog 3 Rv b n D ∧ (∀ k, Maps.has D (.int .i64 k) = (m k).isSome) ∧ (∀ k t, m k = some t → ∀ z, D.atKey (.int .i64 k) z = .held t)
theorem OwnsI.lt {w : World} {b n : Nat} {m : MapInt} (h : OwnsI w b n m) : b < w.heap.size := by
 obtain ⟨D, h, _⟩ := h
 exact h.lt
theorem OwnsI.mono {w : World} {b n n' : Nat} {m : MapInt} (h : OwnsI w b n m) (hn : n ≤ n') : OwnsI w b n' m := by
 obtain ⟨D, h, r⟩ := h
 exact ⟨D, h.mono hn, r⟩
theorem OwnsI.same {w w' : World} {b n : Nat} {m : MapInt} (h : OwnsI w b n m) (hb : w'.heap[b]? = w.heap[b]?) : OwnsI w' b n m := by
 obtain ⟨D, ⟨es, clock, h1, h2⟩, r⟩ := h
 exact ⟨D, ⟨es, clock, hb.trans h1, h2⟩, r⟩
theorem OwnsI.made (w : World) : OwnsI (w.alloc (.map #[] 0)) w.heap.size 0 noneI :=
 ⟨.map [], World.ownsMap_made w _ _ _, fun _ => rfl, fun k t h => by cases h⟩
theorem held_of {w : World} {b n : Nat} {m : MapInt} {D : DataW Value} (h1 : ∀ k, Maps.has D (.int .i64 k) = (m k).isSome) (h2 : ∀ k t, m k = some t → ∀ z, D.atKey (.int .i64 k) z = .held t)
  {k : Int} {z v : Value} {ps : List MemPlace} (hv : Rv v = some (D.atKey (.int .i64 k) (.held z), ps)) : v = (m k).getD z := by
 have hat : (DataW.held v : DataW Value) = D.atKey (.int .i64 k) (.held z) := (Prod.mk.inj (Option.some.inj hv)).1
 cases hm : m k with
 | none =>
  have hn : Maps.has D (.int .i64 k) = false := by rw [h1 k, hm]; rfl
  rw [Maps.atKey_of_not_has hn] at hat
  injection hat
 | some t =>
  rw [h2 k t hm] at hat
  injection hat
theorem OwnsI.look {t e : TypeId} {z : Value} {w : World} {b n : Nat} {m : MapInt} (h : OwnsI w b n m) (ht : Tryz.prog.underlying t = some (.map 3 e)) (hz : (zeroValue e).run Tryz.prog w = .ok z w) (k : Int) (hk : (Lit.int .i64 k).wf = true) :
  (Instr.lookup t (.map (some b)) (.int .i64 k) false).run Tryz.prog w = .ok ((m k).getD z) w := by
 obtain ⟨D, h, h1, h2⟩ := h
 have hkey : keyOf Tryz.prog 3 (.int .i64 k) = some (.int .i64 k) := keyOf_int_mk Tryz.underlying3 hk
 obtain ⟨v, ps, hrun, hv⟩ := h.lookup ikeyed ht hz (show Rv z = some (.held z, []) from rfl) hkey
 rw [hrun, held_of (w := w) (b := b) (n := n) h1 h2 hv]
theorem OwnsI.look_ok {t e : TypeId} {z : Value} {w : World} {b n : Nat} {m : MapInt} (h : OwnsI w b n m) (ht : Tryz.prog.underlying t = some (.map 3 e)) (hz : (zeroValue e).run Tryz.prog w = .ok z w) (k : Int) (hk : (Lit.int .i64 k).wf = true) :
  (Instr.lookup t (.map (some b)) (.int .i64 k) true).run Tryz.prog w = .ok (.tuple #[(m k).getD z, .bool (m k).isSome]) w := by
 obtain ⟨D, h, h1, h2⟩ := h
 have hkey : keyOf Tryz.prog 3 (.int .i64 k) = some (.int .i64 k) := keyOf_int_mk Tryz.underlying3 hk
 obtain ⟨v, ps, hrun, hv⟩ := h.look_ok ikeyed ht hz (show Rv z = some (.held z, []) from rfl) hkey
 rw [hrun, h1 k, held_of (w := w) (b := b) (n := n) h1 h2 hv]
theorem OwnsI.store {t e : TypeId} {w : World} {b n : Nat} {m : MapInt} (h : OwnsI w b n m) (ht : Tryz.prog.underlying t = some (.map 3 e)) (hn : n < maxLen) (k : Int) (v : Value) (hk : (Lit.int .i64 k).wf = true) :
  ∃ w', (Instr.mapUpdate t (.map (some b)) (.int .i64 k) v).run Tryz.prog w = .ok () w' ∧ OwnsI w' b (n + 1) (updI m k v) ∧ w.grownBy w' (some b) := by
 obtain ⟨D, h, h1, h2⟩ := h
 have hkey : keyOf Tryz.prog 3 (.int .i64 k) = some (.int .i64 k) := keyOf_int_mk Tryz.underlying3 hk
 obtain ⟨w', hrun, hown, hg⟩ := h.update ikeyed ht hn hkey (show Rv v = some (.held v, []) from rfl)
 refine ⟨w', hrun, ⟨_, hown, ?_, ?_⟩, hg⟩
 ·intro x
  by_cases hx : x = k
  ·subst hx
   rw [has_put_same h.isMap (show WideAt.IsKeyLit (.int .i64 x) from trivial)]; simp [updI]
  ·rw [has_put_other (by simpa using hx), h1 x]; simp [updI, hx]
 ·intro x t' hx' z
  by_cases hx : x = k
  ·subst hx
   rw [atKey_put_same h.isMap (show WideAt.IsKeyLit (.int .i64 x) from trivial)]
   have : v = t' := by simpa [updI] using hx'
   rw [← this]
  ·rw [atKey_put_other (by simpa using hx)]
   exact h2 x t' (by simpa [updI, hx] using hx') z
theorem mem_intKeys {D : DataW Value} {w : World} {b n : Nat} {R : Value → Option (DataW Value × List MemPlace)} (h : w.ownsMap Tryz.prog 3 R b n D) (x : Int) : x ∈ intKeys D ↔ Maps.has D (.int .i64 x) = true := by
 obtain ⟨es, rfl, hk⟩ := h.keysOf
 rw [has_eq, List.any_eq_true]
 show x ∈ es.map (fun p => _root_.Go.intOf p.1) ↔ _
 rw [List.mem_map]
 constructor
 ·rintro ⟨p, hp, rfl⟩
  obtain ⟨v, hv⟩ := hk p hp
  obtain ⟨a, _, ha, _⟩ := Maps.keyOf_i64 Tryz.underlying3 hv
  exact ⟨p, hp, by rw [ha]; simp [Lit.sameKey, _root_.Go.intOf]⟩
 ·rintro ⟨p, hp, hs⟩
  obtain ⟨v, hv⟩ := hk p hp
  obtain ⟨a, _, ha, _⟩ := Maps.keyOf_i64 Tryz.underlying3 hv
  rw [ha] at hs
  exact ⟨p, hp, by rw [ha]; simpa [Lit.sameKey, _root_.Go.intOf] using hs⟩
theorem mem_strKeys {D : DataW Value} {w : World} {b n : Nat} {R : Value → Option (DataW Value × List MemPlace)} (h : w.ownsMap Tryz.prog 9 R b n D) (x : List UInt8) : x ∈ strKeys D ↔ Maps.has D (.string x) = true := by
 obtain ⟨es, rfl, hk⟩ := h.keysOf
 rw [has_eq, List.any_eq_true]
 show x ∈ es.map (fun p => strOf p.1) ↔ _
 rw [List.mem_map]
 constructor
 ·rintro ⟨p, hp, rfl⟩
  obtain ⟨v, hv⟩ := hk p hp
  obtain ⟨a, _, ha, _⟩ := Maps.keyOf_str Tryz.underlying9 hv
  exact ⟨p, hp, by rw [ha]; simp [Lit.sameKey, strOf]⟩
 ·rintro ⟨p, hp, hs⟩
  obtain ⟨v, hv⟩ := hk p hp
  obtain ⟨a, _, ha, _⟩ := Maps.keyOf_str Tryz.underlying9 hv
  rw [ha] at hs
  exact ⟨p, hp, by rw [ha]; simpa [Lit.sameKey, strOf] using hs⟩
end Go.Proofs.YtnegfigaiomehaaGreatDoor.MapI
end
section
namespace Go.Proofs.YtnegfigaiomehaaGreatDoor.P
open Go.RowKit Go.Proofs.YtnegfigaiomehaaGreatDoorW.PrintWords Go.Proofs.YtnegfigaiomehaaGreatDoorW.PrintLast Go.Proofs.YtnegfigaiomehaaGreatDoorW.PrintMore
attribute [local go_sem] max2_int min2_int max_two min_two max_three min_three max_four min_four
def slices_Index_int_int.l0 : Nat → List Int → Int → Int → Int → Option (Int)
 | 0, _, _, _, _ => none
 | k + 1, x0, x1, x7, x8 => if x8 < x7 then (if 0 ≤ x8 then (if x8 < (x0.length : Int) then (if x1 = (rd x0 x8) then (some x8) else (slices_Index_int_int.l0 k x0 x1 x7 (wrap64 (x8 + 1)))) else (none)) else (none)) else (some (-1))
def slices_Index_int_int.f (k : Nat) (l0 : List Int) (a1 : Int) : Option (Int) := slices_Index_int_int.l0 k l0 a1 (l0.length : Int) 0
theorem slices_Index_int_int.mono_l : ∀ k, (∀ y0 y1 y2 y3, LeO (slices_Index_int_int.l0 k y0 y1 y2 y3) (slices_Index_int_int.l0 (k + 1) y0 y1 y2 y3))
 | 0 => fun _ _ _ _ r h => by simp [slices_Index_int_int.l0] at h
 | k + 1 => by
  have ih0 := slices_Index_int_int.mono_l k
  ·intro y0 y1 y2 y3
   unfold slices_Index_int_int.l0
   repeat' first
   | (with_reducible exact ih0 _ _ _ _)
   | (with_reducible exact LeO.refl _)
   | (with_reducible exact LeO.none _)
   | (with_reducible refine LeO.ite ?_ ?_)
   | (with_reducible refine LeO.bind ?_ (fun _ => ?_))
   | exact ih0 _ _ _ _
   | exact LeO.none _
   | refine LeO.ite ?_ ?_
   | refine LeO.bind ?_ (fun _ => ?_)
theorem slices_Index_int_int.mono : ∀ a0 a1 k, LeO (slices_Index_int_int.f k a0 a1) (slices_Index_int_int.f (k + 1) a0 a1) := by
 intro a0 a1 k
 have ih0 := slices_Index_int_int.mono_l k
 unfold slices_Index_int_int.f
 repeat' first
   | (with_reducible exact ih0 _ _ _ _)
   | (with_reducible exact LeO.refl _)
   | (with_reducible exact LeO.none _)
   | (with_reducible refine LeO.ite ?_ ?_)
   | (with_reducible refine LeO.bind ?_ (fun _ => ?_))
   | exact ih0 _ _ _ _
   | exact LeO.none _
   | refine LeO.ite ?_ ?_
   | refine LeO.bind ?_ (fun _ => ?_)
set_option maxHeartbeats 8000000 in
set_option maxRecDepth 100000 in
theorem slices_Index_int_int.calls (k : Nat) (A0 : Option Addr) (c0 : Nat) (l0 : List Int) (a1 : Int) (r : Int) (w : World) (hr0 : Kd.C (Kd.int .i64) w A0 l0.length l0) (hc0 : l0.length ≤ c0) (h : slices_Index_int_int.f k l0 a1 = some r) :
  Calls Tryz.prog 100 #[.slice A0 l0.length c0, .int .i64 a1] w fun e w' => e = .returned (.int .i64 r) ∧ Drawn0 w w' := by
 have HR0 := Aside0.mk hr0
 have HC0 := Aside0.mk hc0
 clear hr0 hc0
 have H : (slices_Index_int_int.l0 k l0 a1 (l0.length : Int) 0) = some r := h
 clear h
 have H' := Aside0.mk H
 clear H
 go_enter Tryz.func100, Tryz.ntmps100
 go_wp2
 go_loopg [8] k (fun kq v8 w' => ∃ (x8_1 : Int), v8 = .int .i64 x8_1 ∧ Aside0 (slices_Index_int_int.l0 kq l0 a1 (l0.length : Int) x8_1 = some r) ∧ Aside0 (kq ≤ k) ∧ Drawn0 w w')
 case atStart => exact ⟨(0), (by first | rfl | (simp; done) | (simp [*]; done)), H', ⟨Nat.le_refl _⟩, by repeat (first | exact Drawn0.refl _ | apply Drawn0.step)⟩
 case round =>
  clear H'
  try clear c1
  try clear p2
  obtain ⟨x8_1, rfl, HA, HK1, ⟨m1, rfl⟩⟩ := hrel
  cases gk with
  | zero => exact absurd HA.out (by simp [slices_Index_int_int.l0])
  | succ k1 =>
   have H := HA.out
   clear HA
   simp only [slices_Index_int_int.l0] at H
   by_cases c3 : x8_1 < (l0.length : Int)
   ·rw [if_pos c3] at H
    have c3b0 : decide (x8_1 < (l0.length : Int)) = true := decide_eq_true c3
    clear c3
    by_cases c4 : 0 ≤ x8_1
    ·rw [if_pos c4] at H
     have c4b0 : decide (0 ≤ x8_1) = true := decide_eq_true c4
     clear c4
     by_cases c5 : x8_1 < (l0.length : Int)
     ·rw [if_pos c5] at H
      have c5b0 : decide (x8_1 < (l0.length : Int)) = true := decide_eq_true c5
      clear c5
      by_cases c6 : a1 = (rd l0 x8_1)
      ·rw [if_pos c6] at H
       have c6b0 : (a1 == (rd l0 x8_1)) = true := beq_iff_eq.mpr c6
       have c6b1 : (a1 != (rd l0 x8_1)) = false := bne_eq_false_iff_eq.mpr c6
       clear c6
       obtain rfl := Option.some.inj H
       have p177 : 0 ≤ (x8_1 : Int) := of_decide_eq_true (by first | (with_reducible assumption) | assumption)
       have q177 : x8_1 < (l0.length : Int) := of_decide_eq_true (by first | (with_reducible assumption) | assumption)
       obtain ⟨ad177, e177, hx177_0⟩ := Kd.at_int HR0.out x8_1 p177 q177
       cases e177
       replace p177 := eq_true p177
       replace q177 := eq_true q177
       go_wp2
       go_ret
       exact ⟨by first | rfl | (simp; done) | (simp [*]; done), by repeat (first | exact Drawn0.refl _ | apply Drawn0.step)⟩
      ·rw [if_neg c6] at H
       have c6b0 : (a1 == (rd l0 x8_1)) = false := beq_eq_false_iff_ne.mpr c6
       have c6b1 : (a1 != (rd l0 x8_1)) = true := bne_iff_ne.mpr c6
       have H' := Aside0.mk H
       clear H
       have p177 : 0 ≤ (x8_1 : Int) := of_decide_eq_true (by first | (with_reducible assumption) | assumption)
       have q177 : x8_1 < (l0.length : Int) := of_decide_eq_true (by first | (with_reducible assumption) | assumption)
       obtain ⟨ad177, e177, hx177_0⟩ := Kd.at_int HR0.out x8_1 p177 q177
       cases e177
       replace p177 := eq_true p177
       replace q177 := eq_true q177
       go_wp2
       go_roundg k1
       case measure => have := HK1.out; omega
       case rel => exact ⟨(wrap64 (x8_1 + 1)), (by first | rfl | (simp; done) | (simp [*]; done)), H', ⟨by have := HK1.out; omega⟩, by repeat (first | exact Drawn0.refl _ | apply Drawn0.step)⟩
     ·rw [if_neg c5] at H
      exact absurd H (by simp)
    ·rw [if_neg c4] at H
     exact absurd H (by simp)
   ·rw [if_neg c3] at H
    have c3b0 : decide (x8_1 < (l0.length : Int)) = false := decide_eq_false c3
    clear c3
    obtain rfl := Option.some.inj H
    go_wp2
    go_ret
    exact ⟨by first | rfl | (simp; done) | (simp [*]; done), by repeat (first | exact Drawn0.refl _ | apply Drawn0.step)⟩
end Go.Proofs.YtnegfigaiomehaaGreatDoor.P
end
section
namespace Go.Proofs.YtnegfigaiomehaaGreatDoor.P
open Go.RowKit Go.Proofs.YtnegfigaiomehaaGreatDoorW.PrintWords Go.Proofs.YtnegfigaiomehaaGreatDoorW.PrintLast Go.Proofs.YtnegfigaiomehaaGreatDoorW.PrintMore
attribute [local go_sem] max2_int min2_int max_two min_two max_three min_three max_four min_four
def slices_Contains_int_int.f (k : Nat) (l0 : List Int) (a1 : Int) : Option (Bool) := (slices_Index_int_int.f k l0 a1).bind fun t178 => (some (decide (t178 ≥ 0)))
theorem slices_Contains_int_int.mono : ∀ a0 a1 k, LeO (slices_Contains_int_int.f k a0 a1) (slices_Contains_int_int.f (k + 1) a0 a1) := by
 intro a0 a1 k
 unfold slices_Contains_int_int.f
 repeat' first
   | (with_reducible exact slices_Index_int_int.mono _ _ _)
   | (with_reducible exact LeO.refl _)
   | (with_reducible exact LeO.none _)
   | (with_reducible refine LeO.ite ?_ ?_)
   | (with_reducible refine LeO.bind ?_ (fun _ => ?_))
   | exact slices_Index_int_int.mono _ _ _
   | exact LeO.none _
   | refine LeO.ite ?_ ?_
   | refine LeO.bind ?_ (fun _ => ?_)
set_option maxHeartbeats 8000000 in
set_option maxRecDepth 100000 in
theorem slices_Contains_int_int.calls (k : Nat) (A0 : Option Addr) (c0 : Nat) (l0 : List Int) (a1 : Int) (r : Bool) (w : World) (hr0 : Kd.C (Kd.int .i64) w A0 l0.length l0) (hc0 : l0.length ≤ c0) (h : slices_Contains_int_int.f k l0 a1 = some r) :
  Calls Tryz.prog 71 #[.slice A0 l0.length c0, .int .i64 a1] w fun e w' => e = .returned (.bool r) ∧ Drawn0 w w' := by
 have HR0 := Aside0.mk hr0
 have HC0 := Aside0.mk hc0
 clear hr0 hc0
 have H : ((slices_Index_int_int.f k l0 a1).bind fun t178 => (some (decide (t178 ≥ 0)))) = some r := h
 clear h
 replace H := Option.bind_eq_some_iff.mp H
 obtain ⟨t178, A30, H⟩ := H
 replace H : (some (decide (t178 ≥ 0))) = some r := H
 have A3 := Aside0.mk A30
 clear A30
 obtain rfl := Option.some.inj H
 go_enter Tryz.func71, Tryz.ntmps71
 go_wp2_with (first | ((with_reducible refine gate_callee (f := 100) rfl ?_); refine goesL_ (some 7) rfl rfl Tryz.func100 (by kernel_rfl) rfl #[.slice A0 l0.length c0, .int .i64 a1] rfl (by (try simp only [List.map_toArray, List.map_cons, List.map_nil]); first | done | rfl | (simp only [List.length_drop, List.length_take]; rfl)) ?_; (with_reducible refine (slices_Index_int_int.calls k _ _ l0 a1 t178 _ ?side1 ?side2 A3.out).mono ?_); (case side1 => repeat (first | exact HR0.out | (with_reducible refine Kd.C_alloc ?_ _) | (with_reducible refine Kd.C_drewN ?_ _) | (with_reducible refine Kd.C_drew ?_))); (case side2 => exact HC0.out); rintro e w' ⟨rfl, ⟨nd, rfl⟩⟩; refine ⟨_, rfl, ?_⟩))
 go_ret
 exact ⟨by first | rfl | (simp; done) | (simp [*]; done), by repeat (first | exact Drawn0.refl _ | apply Drawn0.step)⟩
end Go.Proofs.YtnegfigaiomehaaGreatDoor.P
end
section
namespace Go.Proofs.YtnegfigaiomehaaGreatDoor.Tp
open Go.RowKit Go.Lib Go.Shelf Go.Maps Go.Proofs.YtnegfigaiomehaaGreatDoorW.PrintWords Go.Proofs.YtnegfigaiomehaaGreatDoorW.PrintLast Go.Proofs.YtnegfigaiomehaaGreatDoorW.PrintMore Go.Proofs.YtnegfigaiomehaaGreatDoor.U Go.Proofs.YtnegfigaiomehaaGreatDoor.P Go.Proofs.YtnegfigaiomehaaGreatDoor.MapV Go.Proofs.YtnegfigaiomehaaGreatDoor.Ck
def madeStep (es : List EdgeL) (out : List Nat) (f : Txt) : List Nat := match makerL es f with
 | some n => if n ∈ out then out else out ++ [n]
 | none => out
def madeL (es : List EdgeL) (fs : List Txt) : List Nat := fs.foldl (madeStep es) []
theorem mem_madeStep {es : List EdgeL} {out : List Nat} {f : Txt} {n : Nat} : n ∈ madeStep es out f ↔ n ∈ out ∨ makerL es f = some n := by
 unfold madeStep
 cases hm : makerL es f with
 | none => simp
 | some k =>
  by_cases hk : k ∈ out
  ·simp only [hk, if_true, Option.some.injEq]
   exact ⟨.inl, fun h => h.elim id (fun h => h ▸ hk)⟩
  ·simp only [hk, if_false, Option.some.injEq, List.mem_append, List.mem_singleton, eq_comm]
theorem mem_madeF {es : List EdgeL} {n : Nat} : ∀ (fs : List Txt) (out : List Nat), n ∈ fs.foldl (madeStep es) out ↔ n ∈ out ∨ ∃ f ∈ fs, makerL es f = some n
 | [], out => by simp
 | f :: fs, out => by
  rw [List.foldl_cons, mem_madeF fs, mem_madeStep]
  simp only [List.mem_cons, exists_eq_or_imp, or_assoc]
theorem mem_madeL {es : List EdgeL} {fs : List Txt} {n : Nat} : n ∈ madeL es fs ↔ ∃ f ∈ fs, makerL es f = some n := by
 rw [madeL, mem_madeF]; simp
theorem madeL_lt {es : List EdgeL} {fs : List Txt} {n : Nat} (h : n ∈ madeL es fs) : n < es.length := by
 obtain ⟨f, _, hf⟩ := mem_madeL.1 h
 exact maker_lt hf
theorem madeL_take (es : List EdgeL) (fs : List Txt) (i : Nat) (h : i < fs.length) : madeL es (fs.take (i + 1)) = madeStep es (madeL es (fs.take i)) fs[i] := by
 unfold madeL
 rw [List.take_succ_eq_append_getElem h, List.foldl_append]; rfl
theorem madeF_len (es : List EdgeL) : ∀ (fs : List Txt) (out : List Nat), (fs.foldl (madeStep es) out).length ≤ out.length + fs.length
 | [], out => by simp
 | f :: fs, out => by
  rw [List.foldl_cons, List.length_cons]
  have := madeF_len es fs (madeStep es out f)
  have h2 : (madeStep es out f).length ≤ out.length + 1 := by
   unfold madeStep
   cases makerL es f with
   | none => simp
   | some k => by_cases hk : k ∈ out <;> simp [hk]
  omega
theorem madeL_len (es : List EdgeL) (fs : List Txt) : (madeL es fs).length ≤ fs.length := by
 have := madeF_len es fs []
 simpa [madeL] using this
def aheadL (es : List EdgeL) (n : Nat) : List Nat := match es[n]? with
 | some e => madeL es (needsL e)
 | none => []
theorem mem_aheadL {es : List EdgeL} {n k : Nat} : k ∈ aheadL es n ↔ Ah es n k := by
 unfold aheadL Ah
 cases es[n]? with
 | none => simp
 | some e => simp [mem_madeL]
def intsN (l : List Nat) : List Int := l.map fun n : Nat => (n : Int)
theorem intsN_len (l : List Nat) : (intsN l).length = l.length := List.length_map ..
def makerV (es : List EdgeL) : MapVal := fun f => (makerL es f).map fun n => Value.int .i64 (n : Int)
abbrev KI := Kd.slice 3 (Kd.int .i64)
def ptr (p : Nat) : Value := .pointer (some ⟨p, 0, none⟩)
def MakersAt (w : World) (p : Nat) (es : List EdgeL) : Prop := ∃ v0 v1 v3 mb n, w.heap[p]? = some (.cells #[v0, v1, .map (some mb), v3] 86 (0, 0)) ∧ n ≤ 1000000 ∧ OwnsV w mb n (makerV es)
theorem MakersAt.below {w w' : World} {p : Nat} {es : List EdgeL} (h : MakersAt w p es) (hb : Below w.heap.size w w') : MakersAt w' p es := by
 obtain ⟨v0, v1, v3, mb, n, h1, h2, h3⟩ := h
 exact ⟨v0, v1, v3, mb, n, below_blk hb h1, h2, h3.same (hb.block _ h3.lt)⟩
structure GraphAt (w : World) (p : Nat) (es : List EdgeL) (defs : List Txt) : Prop where
 blk : ∃ A0 c0 A1 c1 mb A3 c3, w.heap[p]? = some (.cells #[.slice A0 es.length c0, .slice A1 defs.length c1, .map (some mb), .slice A3 es.length c3] 86 (0, 0)) ∧ (es.length ≤ c0 ∧ Kd.C KE w A0 es.length (es.map toE)) ∧ Str w (.slice A1 defs.length c1) defs ∧ (∃ n, n ≤ 1000000 ∧ OwnsV w mb n (makerV es)) ∧ (es.length ≤ c3 ∧ Kd.C KI w A3 es.length ((List.range es.length).map fun n => intsN (aheadL es n)))
theorem GraphAt.below {w w' : World} {p : Nat} {es : List EdgeL} {defs : List Txt} (h : GraphAt w p es defs) (hb : Below w.heap.size w w') : GraphAt w' p es defs := by
 obtain ⟨A0, c0, A1, c1, mb, A3, c3, h1, ⟨h2, h3⟩, h4, ⟨n, h5, h6⟩, h7, h8⟩ := h.blk
 exact ⟨A0, c0, A1, c1, mb, A3, c3, below_blk hb h1, ⟨h2, Kd.C_below h3 hb⟩, h4.below hb, ⟨n, h5, h6.same (hb.block _ h6.lt)⟩, h7, Kd.C_below h8 hb⟩
theorem GraphAt.makers {w : World} {p : Nat} {es : List EdgeL} {defs : List Txt} (h : GraphAt w p es defs) : MakersAt w p es := by
 obtain ⟨A0, c0, A1, c1, mb, A3, c3, h1, _, _, ⟨n, h5, h6⟩, _⟩ := h.blk
 exact ⟨_, _, _, mb, n, h1, h5, h6⟩
theorem zeroInt (w : World) : (zeroValue 3).run Tryz.prog w = .ok (.int .i64 0) w := by first | exact Tryz.zeroValue3 w | exact Tryz.zeroValue3
theorem makerV_none {es : List EdgeL} {f : Txt} (h : makerL es f = none) : makerV es f = none := by unfold makerV; rw [h]; rfl
theorem makerV_some {es : List EdgeL} {f : Txt} {n : Nat} (h : makerL es f = some n) : makerV es f = some (.int .i64 (n : Int)) := by unfold makerV; rw [h]; rfl
set_option maxRecDepth 100000 in
set_option maxHeartbeats 4000000 in
theorem Maker_any (p : Nat) (es : List EdgeL) (f : Txt) (w : World) (h : MakersAt w p es) (hf : f.length ≤ 100000) :
  Calls Tryz.prog 19 #[ptr p, .string (B f)] w fun e w' => e = .returned (.tuple #[.int .i64 (((makerL es f).getD 0 : Nat) : Int), .bool (makerL es f).isSome]) ∧ w' = w := by
 obtain ⟨v0, v1, v3, mb, n, hb, hn, hm⟩ := h
 have c2 := (cell_of_heap (j := 2) hb).trans rfl
 have hlk := hm.look_ok (t := 83) (e := 3) Tryz.underlying83 (zeroInt w) f (by unfold maxLen; omega)
 have e1 : (makerV es f).getD (.int .i64 0) = .int .i64 (((makerL es f).getD 0 : Nat) : Int) := by unfold makerV; cases makerL es f <;> rfl
 have e2 : (makerV es f).isSome = (makerL es f).isSome := by unfold makerV; cases makerL es f <;> rfl
 rw [e1, e2] at hlk
 generalize (((makerL es f).getD 0 : Nat) : Int) = q at *
 generalize (makerL es f).isSome = b at *
 clear e1 e2 hm hb
 unfold ptr
 go_enter Tryz.func19, Tryz.ntmps19
 go_wp2_with fail
 go_ret2
 exact ⟨rfl, rfl⟩
end Go.Proofs.YtnegfigaiomehaaGreatDoor.Tp
end
section
namespace Go.Proofs.YtnegfigaiomehaaGreatDoor.Tp
open Go.RowKit Go.Lib Go.Shelf Go.Maps Go.Proofs.YtnegfigaiomehaaGreatDoorW.PrintWords Go.Proofs.YtnegfigaiomehaaGreatDoorW.PrintLast Go.Proofs.YtnegfigaiomehaaGreatDoorW.PrintMore Go.Proofs.YtnegfigaiomehaaGreatDoor.U Go.Proofs.YtnegfigaiomehaaGreatDoor.P Go.Proofs.YtnegfigaiomehaaGreatDoor.MapV Go.Proofs.YtnegfigaiomehaaGreatDoor.Ck
def Ints (w : World) (v : Value) (l : List Nat) : Prop := ∃ A c, v = .slice A l.length c ∧ l.length ≤ c ∧ Kd.C (Kd.int .i64) w A l.length (intsN l)
theorem Ints.below {w w' : World} {v : Value} {l : List Nat} (h : Ints w v l) (hb : Below w.heap.size w w') : Ints w' v l := by
 obtain ⟨A, c, e, hl, h⟩ := h
 exact ⟨A, c, e, hl, Kd.C_below h hb⟩
theorem ints_of_R {w : World} {base : Nat} {ok : Nat → Prop} {v : Value} {l : List Nat} (h : Kd.R (Kd.int .i64) 3 w base ok v (intsN l)) : Ints w v l := by
 obtain ⟨A, c, e, hl, h⟩ := Kd.R_reads h
 rw [intsN_len] at e hl h
 exact ⟨A, c, e, hl, h⟩
theorem int_at {w : World} {A : Option Addr} {l : List Nat} {n : Nat} (hn : l.length = n) (h : Kd.C (Kd.int .i64) w A n (intsN l)) (i : Nat) (hi : i < l.length) : ∃ ad, A = some ad ∧ w.cell? (ad.add i) = some (.int .i64 (l[i] : Int)) := by
 subst hn
 obtain ⟨ad, c, e, _, hK, hc0⟩ := Kd.C_get (d := Kd.int .i64) (n := l.length) h 0 (i : Int) (by omega) (by omega)
 refine ⟨ad, e, ?_⟩
 have hx : (intsN l).getD (i : Int).toNat 0 = (l[i] : Int) := by
  rw [Int.toNat_natCast, List.getD_eq_getElem?_getD, intsN, List.getElem?_map, List.getElem?_eq_getElem hi]; rfl
 rw [hx] at hK
 have hK' : c = [.int .i64 (l[i] : Int)] := hK
 subst hK'
 have := hc0 0 _ rfl
 rwa [show (i : Int).toNat * (Kd.int .i64).sz + 0 = i by show (i : Int).toNat * 1 + 0 = i; omega] at this
theorem Contains_any (v : Value) (l : List Nat) (n : Nat) (w : World) (h : Ints w v l) (hl : l.length ≤ 1000000) :
  Calls Tryz.prog 71 #[v, .int .i64 (n : Int)] w fun e w' => e = .returned (.bool (decide (n ∈ l))) ∧ w' = w := by
 obtain ⟨A, c, rfl, hc, hC⟩ := h
 rcases Nat.eq_zero_or_pos l.length with h0 | h0
 ·have hnil := List.length_eq_zero_iff.1 h0
  subst hnil
  have := Tryz.slices_Contains_int_empty A c (n : Int) w
  simpa using this
 ·obtain ⟨ad, rfl, hc0⟩ := int_at rfl hC 0 h0
  have e := addr_plain hc0
  obtain ⟨b, o, s⟩ := ad
  have hs : s = none := by simpa [Addr.add] using e
  subst hs
  have := Tryz.slices_Contains_int b o l.length c (intsN l) (n : Int) w (by rw [intsN_len]; exact Nat.le_refl _) (by omega) (by
   intro j hj
   rw [intsN_len] at hj
   obtain ⟨ad', e', h'⟩ := int_at rfl hC j hj
   injection e' with e'
   subst e'
   have hx : (intsN l).getD j 0 = (l[j] : Int) := by
    rw [List.getD_eq_getElem?_getD, intsN, List.getElem?_map, List.getElem?_eq_getElem hj]; rfl
   rw [hx]
   by_cases hj0 : j = 0
   ·subst hj0; simpa [Addr.add] using h'
   ·simpa [Addr.add, hj0] using h')
  rw [List.take_of_length_le (by rw [intsN_len]; exact Nat.le_refl _)] at this
  have hb : (intsN l).contains (n : Int) = decide (n ∈ l) := by
   rw [Bool.eq_iff_iff, List.contains_iff_mem, decide_eq_true_iff, intsN, List.mem_map]
   constructor
   ·rintro ⟨a, ha, he⟩
    have : a = n := by omega
    exact this ▸ ha
   ·intro h; exact ⟨n, h, rfl⟩
  rw [hb] at this
  exact this
theorem infoInt : (Tryz.prog.info? 3).map (fun i => (i.zero, i.size, i.bytes)) = some (some (.int .i64 0), 1, 8) := by kernel_rfl
set_option maxRecDepth 100000 in
set_option maxHeartbeats 8000000 in
theorem made_any (p : Nat) (es : List EdgeL) (fs : List Txt) (v : Value) (w : World) (hm : MakersAt w p es) (hv : Str w v fs) (hn : fs.length ≤ 1000) (hf : ∀ f ∈ fs, f.length ≤ 100000) :
  Calls Tryz.prog 42 #[ptr p, v] w fun e w' => ∃ v', e = .returned v' ∧ Kd.R (Kd.int .i64) 3 w' w.heap.size (fun _ => True) v' (intsN (madeL es fs)) ∧ Below w.heap.size w w' := by
 obtain ⟨A, c, rfl, hl, hC⟩ := hv
 obtain ⟨N, hN⟩ : ∃ N, fs.length = N := ⟨_, rfl⟩
 have hNH := Lib.hid hN
 have hmH := Lib.hid hm
 have hCH := Lib.hid hC
 have hfH := Lib.hid hf
 rw [hN] at hn ⊢
 clear hN hm hC hf hl
 unfold ptr
 go_enter Tryz.func42, Tryz.ntmps42
 go_wp2_with fail
 go_loopg [5, 12] N (fun gk s5 s12 wr => ∃ i : Nat, s12 = .int .i64 (i : Int) ∧ i + gk = N ∧ Hid (Kd.R (Kd.int .i64) 3 wr w.heap.size (fun _ => True) s5 (intsN (madeL es (fs.take i)))) ∧ Hid (Below w.heap.size w wr))
 case atStart => exact ⟨0, rfl, Nat.zero_add _, Lib.hid (Kd.R_nil _ _ _ _ _), Lib.hid (Below.refl _ _)⟩
 case round =>
  obtain ⟨i, rfl, hik, hR, hB⟩ := hrel
  cases gk with
  | zero =>
   obtain rfl : i = N := by omega
   have hlt : decide ((i : Int) < (i : Int)) = false := by simp
   go_wp2_with fail
   go_ret
   have := hR.out
   rw [List.take_of_length_le (by rw [hNH.out]; exact Nat.le_refl _)] at this
   exact ⟨_, rfl, this, hB.out⟩
  | succ gk =>
   have hi : i < fs.length := by rw [hNH.out]; omega
   have hlt : decide ((i : Int) < (N : Int)) = true := by rw [decide_eq_true_iff]; omega
   have i1 : (0 : Int) ≤ (i : Int) := by omega
   have i2 : (i : Int) < (N : Int) := by omega
   have hC0 := hCH.out
   obtain ⟨ad, hA, k0⟩ := text_at hC0 i hi
   subst hA
   replace k0 := below_cell hB.out k0
   have htk := Lib.hid (madeL_take es fs i hi)
   have hln := hfH.out fs[i] (List.getElem_mem hi)
   have hml := madeL_len es (fs.take i)
   rw [List.length_take] at hml
   generalize fs[i] = f at *
   obtain ⟨v0, v1, v3, mb, q, hb, hq, hm⟩ := hmH.out.below hB.out
   have c2 := (cell_of_heap (j := 2) hb).trans rfl
   have hlk := hm.look_ok (t := 83) (e := 3) Tryz.underlying83 (zeroInt wr) f (by unfold maxLen; omega)
   cases hM : makerL es f with
   | none =>
    rw [makerV_none hM] at hlk
    have hst : Hid (madeStep es (madeL es (fs.take i)) f = madeL es (fs.take i)) := by show _ = _; unfold madeStep; rw [hM]
    clear hm hb hC0
    go_wp2_with fail
    go_roundg gk
    case measure => omega
    case rel => exact ⟨i + 1, by first | rfl | simp, by omega, by rw [htk.out, hst.out]; exact hR, hB⟩
   | some k =>
    rw [makerV_some hM] at hlk
    have hct := Lib.hid (Contains_any u5 _ k wr (ints_of_R hR.out) (by omega))
    by_cases hk : k ∈ madeL es (fs.take i)
    ·have hst : Hid (madeStep es (madeL es (fs.take i)) f = madeL es (fs.take i)) := by show _ = _; unfold madeStep; rw [hM]; simp [hk]
     rw [decide_eq_true hk] at hct
     clear hm hb hC0 hk
     go_wp2_with fail
     refine hct.out.mono ?_
     rintro e w1 ⟨rfl, rfl⟩
     go_wp2_with fail
     go_roundg gk
     case measure => omega
     case rel => exact ⟨i + 1, by first | rfl | simp, by omega, by rw [htk.out, hst.out]; exact hR, hB⟩
    ·have hst : Hid (madeStep es (madeL es (fs.take i)) f = madeL es (fs.take i) ++ [k]) := by show _ = _; unfold madeStep; rw [hM]; simp [hk]
     rw [decide_eq_false hk] at hct
     clear hm hb hC0 hk
     go_wp2_with fail
     refine hct.out.mono ?_
     rintro e w1 ⟨rfl, rfl⟩
     have hbd : ((intsN (madeL es (fs.take i))).length + 1) * 8 ≤ 140737488355328 := by rw [intsN_len]; omega
     go_wp2_with (at_builtin; go_loud (refine Kd.R_append (Kd.int .i64) (w0 := w) w.heap.size rfl _ _ 57 3 (.int .i64 0) 8 rfl Tryz.underlying57 infoInt rfl (by decide) (by decide) u5 (intsN (madeL es (fs.take i))) (k : Int) [.int .i64 (k : Int)] (fun _ => True) (fun _ => False) rfl rfl rfl (fun _ h => h.elim) (fun _ _ => trivial) hR.out hB.out hB.out.size hbd ?_))
     intro v1 w1 hR1 hb1 _ _
     have hR2 : Hid (Kd.R (Kd.int .i64) 3 w1 w.heap.size (fun _ => True) v1 (intsN (madeL es (fs.take (i + 1))))) := by
      show Kd.R _ _ _ _ _ _ _
      rw [htk.out, hst.out, intsN, List.map_append]
      exact hR1
     have hB2 := Lib.hid hb1
     clear hR1 hb1
     go_wp2_with fail
     go_roundg gk
     case measure => omega
     case rel => exact ⟨i + 1, by first | rfl | simp, by omega, hR2, hB2⟩
end Go.Proofs.YtnegfigaiomehaaGreatDoor.Tp
end
