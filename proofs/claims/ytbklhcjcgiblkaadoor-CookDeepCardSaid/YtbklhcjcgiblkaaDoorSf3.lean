/- Laid together by wip/tools/shake.py from texts of this claim: SplitP, WpIn, CkMut, CkLine, AppStr, CkPInv, CkPuts, CkInc, CkPlain, CkOut, CkShp, CkDish, CkCook1, CkCook, CkAwake, PBellowslaw15Of0, PBellowslaw15Light0, CkOuts, CkDeepL, CkCats. -/
import Derived.Test.YtbklhcjcgiblkaaDoorSf2
import Derived.OwnWalkIn
import Derived.OrdersIn
import Derived.RangeFuncCalls
import Derived.Lib.AppendStr
import Derived.Shelf.Strings.FieldsFuncGrows
section
set_option linter.unusedSimpArgs false
set_option linter.unusedVariables false
namespace Go.Proofs.YtbklhcjcgiblkaaDoor.P
open Go.RowKit Go.Shelf Go.Proofs.YtbklhcjcgiblkaaDoor.U Go.Proofs.YtbklhcjcgiblkaaDoor.Rng
attribute [local go_sem] Oper.semAt_some
set_option maxRecDepth 100000 in
set_option maxHeartbeats 4000000 in
theorem split_seqP (c : UInt8) (k : Nat) (hk : k ≤ 1) (b : Nat) (s : List UInt8) (hs : s.length ≤ 1000000) (w : World) (hlt : b + 2 < w.heap.size)
    (hb0 : w.heap[b]? = some (.cells #[.string (B s)] 9 (0, 0))) (hb1 : w.heap[b + 1]? = some (.cells #[.string (B [c])] 9 (0, 0))) (hb2 : w.heap[b + 2]? = some (.cells #[.int .i64 (k : Int)] 3 (0, 0))) :
    SeqOfP Tryd.prog 85 #[.pointer (some ⟨b + 1, 0, none⟩), .pointer (some ⟨b, 0, none⟩), .pointer (some ⟨b + 2, 0, none⟩)] b ((splitK c k s).map B) w := by
  intro l J Jx Jp W hW hJs hY hJ0
  have HB0 : W.heap[b]? = some (.cells #[.string (B s)] 9 (0, 0)) := (hW.block _ (by omega)).trans hb0
  have HB1 : W.heap[b + 1]? = some (.cells #[.string (B [c])] 9 (0, 0)) := (hW.block _ (by omega)).trans hb1
  have HB2 : W.heap[b + 2]? = some (.cells #[.int .i64 (k : Int)] 3 (0, 0)) := (hW.block _ (by omega)).trans hb2
  clear hb0 hb1 hb2
  have c1 := cell_of_one HB1
  refine callsIn_of_wp Tryd.func85 rfl trivial ?_ rfl
  simp only [Tryd.ntmps85, List.size_toArray, List.length_cons, List.length_nil, Nat.reduceAdd, Nat.reduceSub, Array.replicate_succ, Array.replicate_zero, List.push_toArray, List.append_toArray, List.nil_append, List.cons_append]
  gi_wp2_with fail
  gi_loopg [] (s.length + 1) (fun gk wr => ∃ (pre : List ByteArray) (r : List UInt8), (splitK c k s).map B = pre ++ (splitK c k r).map B ∧ r.length < gk ∧ r.length ≤ 1000000 ∧
    Hid (wr.heap[b]? = some (.cells #[.string (B r)] 9 (0, 0))) ∧ Hid (wr.heap[b + 1]? = some (.cells #[.string (B [c])] 9 (0, 0))) ∧ Hid (wr.heap[b + 2]? = some (.cells #[.int .i64 (k : Int)] 3 (0, 0))) ∧ Hid (J pre wr))
  case atStart => exact ⟨[], s, rfl, by omega, hs, HB0, HB1, HB2, hJ0⟩
  case round =>
    clear c1
    obtain ⟨pre, r, hx, hgk, hr, h0, h1, h2, hj⟩ := hrel
    have c0 := cell_of_one h0.out
    have c1 := cell_of_one h1.out
    have c2 := cell_of_one h2.out
    have f0 := free_of_one h0.out
    have HX := Lib.hid hx
    clear hx
    rcases index_cases r c with ⟨hi, hn⟩ | ⟨a, r', hr', hn, hi⟩
    · have HC : Hid (∀ W, CallsIn Fence.wide 1 Tryd.prog 87 #[.string (B r), .string (B [c])] W fun e w' => e = .returned (.int .i64 (-1)) ∧ W = w') := fun W => by
        have h := Tryd.strings_Index_one (B r) c W
        rw [data_B, hi] at h
        exact callsIn_wide.2 (h.mono fun e w' ⟨he, hw⟩ => ⟨he, hw.symm⟩)
      clear hi
      obtain ⟨fn, tmps, assign, body, hy, hR⟩ := hY pre (B r) wr hj.out (by rw [HX.out, splitK_none c k r hn]; simp)
      gi_wp2_with fail
      refine ⟨trivial, (HC.out _).mono ?_⟩
      rintro e w' ⟨rfl, rfl⟩
      gi_wp2_with fail
      refine hR.mono ?_
      rintro e W3 (⟨rfl, hJ3, hk3⟩ | ⟨rfl, hJx3⟩ | ⟨ch, rfl, hJp3⟩)
      · gi_wp2_with fail
        go_end0
        exact .inl ⟨⟨_, rfl⟩, .inl (by rw [HX.out, splitK_none c k r hn]; exact hJ3)⟩
      · gi_wp2_with fail
        go_end0
        exact .inl ⟨⟨_, rfl⟩, .inr ⟨_, by rw [HX.out, splitK_none c k r hn]; simp, hJx3⟩⟩
      · exact ⟨rfl, .inr ⟨ch, rfl, hJp3⟩⟩
    · have HC : Hid (∀ W, CallsIn Fence.wide 1 Tryd.prog 87 #[.string (B r), .string (B [c])] W fun e w' => e = .returned (.int .i64 (a.length : Int)) ∧ W = w') := fun W => by
        have h := Tryd.strings_Index_one (B r) c W
        rw [data_B, hi] at h
        exact callsIn_wide.2 (h.mono fun e w' ⟨he, hw⟩ => ⟨he, hw.symm⟩)
      clear hi
      have hlen : r.length = a.length + 1 + r'.length := by rw [hr']; simp; omega
      have hsz : (B r).size = a.length + 1 + r'.length := by rw [size_B, hlen]
      have ha1 : (a.length : Int) + (k : Int) ≤ (a.length : Int) + 1 + (r'.length : Int) := by omega
      have E1 : Hid ((B r).extract 0 (a.length + k) = B (a ++ [c].take k)) := by
        show (B r).extract 0 (a.length + k) = B (a ++ [c].take k)
        rw [extract_B, hr', List.drop_zero, List.take_append, List.take_of_length_le (by omega)]
        have : (c :: r').take (a.length + k - a.length) = [c].take k := by
          rw [Nat.add_sub_cancel_left]
          match k, hk with
          | 0, _ => rfl
          | 1, _ => rfl
        rw [this]
      have E2 : Hid ((B r).extract (a.length + 1) (a.length + 1 + r'.length) = B r') := by
        show (B r).extract (a.length + 1) (a.length + 1 + r'.length) = B r'
        rw [extract_B, List.take_of_length_le (by omega), hr', List.drop_append]
        simp
      have HS : Hid (splitK c k r = (a ++ [c].take k) :: splitK c k r') := by
        show splitK c k r = _
        rw [hr', splitK_at c k a r' hn]
      obtain ⟨fn, tmps, assign, body, hy, hR⟩ := hY pre (B (a ++ [c].take k)) wr hj.out (by rw [HX.out, HS.out]; simp)
      have hr3 : r'.length ≤ 1000000 := by omega
      have hr4 : a.length ≤ 1000000 := by omega
      clear hr'
      gi_wp2_with fail
      refine ⟨trivial, (HC.out _).mono ?_⟩
      rintro e w' ⟨rfl, rfl⟩
      rw [← E1.out] at hy
      gi_wp2_with fail
      refine hR.mono ?_
      rintro e W3 (⟨rfl, hJ3, hk3⟩ | ⟨rfl, hJx3⟩ | ⟨ch, rfl, hJp3⟩)
      · have g0 := Lib.hid (hk3.1.trans h0.out)
        have g1 := Lib.hid (hk3.2.1.trans h1.out)
        have g2 := Lib.hid (hk3.2.2.trans h2.out)
        have d0 := cell_of_one g0.out
        have d1 := cell_of_one g1.out
        have e0 := free_of_one g0.out
        have J3 := Lib.hid hJ3
        obtain ⟨g', rfl⟩ : ∃ g', gk = g' + 1 := ⟨gk - 1, by omega⟩
        clear hk3 hJ3 c0 c1 c2 f0 hy hR
        gi_wp2_with fail
        gi_roundg g'
        case measure => omega
        case rel =>
          rw [E2.out]
          refine ⟨pre ++ [B (a ++ [c].take k)], r', ?_, by omega, hr3, one_setCell g0.out, ?_, ?_, hJs _ _ _ J3.out⟩
          · rw [HX.out, HS.out]; simp
          · exact (Below.heap_setCell _ _ _ _ (by show b + 1 ≠ b; omega)).trans g1.out
          · exact (Below.heap_setCell _ _ _ _ (by show b + 2 ≠ b; omega)).trans g2.out
      · gi_wp2_with fail
        refine bodyPost_ret (results_none rfl _ _ _) rfl ?_
        exact .inl ⟨⟨_, rfl⟩, .inr ⟨_, by rw [HX.out, HS.out]; simp, hJx3⟩⟩
      · exact ⟨rfl, .inr ⟨ch, rfl, hJp3⟩⟩
end Go.Proofs.YtbklhcjcgiblkaaDoor.P
end
section
set_option linter.unusedSimpArgs false
set_option linter.unusedVariables false
namespace Go.Proofs.YtbklhcjcgiblkaaDoor.RegP
open Go Go.Proofs.YtbklhcjcgiblkaaDoor.RegG
section
variable {P : Program} {ops : Array Oper} {Q : Exit → Act → World → Prop} {l n : Nat}
theorem opIn_of {o : Oper} {a : Act} {w : World} {K : Act → World → Prop} (hd : ∀ c, o.op ≠ .defer c) (h : o.wp P a w K Q) : o.wpIn (Fence.wide.inRound l) n P a w K Q := by
  unfold Oper.wpIn
  refine ⟨fun f _ => trivial, ?_⟩
  rw [Oper.semAt_plain _ _ _ hd]
  unfold Oper.wp at h
  generalize (execOp a.eval o).run P w = r at h
  cases r with
  | ok x w' =>
    cases x with
    | value v => exact h
    | skip => exact h
    | defer d => exact h
    | enter f args => exact ⟨fun e => by simp [Fence.wide, Fence.inRound] at e, CallsIn.inRound l (callsIn_wide.2 h)⟩
    | row row args =>
      refine ⟨fun e => by simp [Fence.wide, Fence.inRound] at e, fun c cs _ => ?_⟩
      obtain ⟨v, w'', r, s⟩ := h c cs
      exact ⟨v, w'', r, stepsIn_wide.2 s⟩
    | _ => exact h.elim
  | halt x w' => cases x <;> first | exact h | exact h.elim
theorem opIn_at {i : Nat} {K K' : Act → World → Prop} {a : Act} {w : World} (hd : ∀ (j : Nat) (o : Oper) c, ops[j]? = some o → o.op ≠ .defer c) (hQ : ¬ LetsOut Q) (hK : ∀ a w, K a w → K' a w) (h : wpOp P ops Q i K a w) : wpOpIn (Fence.wide.inRound l) n P ops Q i K' a w := by
  unfold wpOp at h
  unfold wpOpIn
  cases hi : ops[i]? with
  | none => rw [hi] at h; exact hK _ _ h
  | some o =>
    rw [hi] at h
    simp only at h ⊢
    split
    · rename_i hw
      rw [if_pos hw] at h
      rcases h with h | h
      · exact Oper.wpIn_mono hK (opIn_of (hd i o · hi) h)
      · exact absurd h.2 hQ
    · rename_i hw
      rw [if_neg hw] at h
      exact ⟨fun f _ => trivial, hK _ _ h⟩
theorem anyIn_of {md : Region.Mode} (hd : ∀ (j : Nat) (o : Oper) c, ops[j]? = some o → o.op ≠ .defer c) (hQ : ¬ LetsOut Q) : ∀ (fuel : Nat) (listed : Array Bool) (a : Act) (w : World), wpAny P md ops Q fuel listed a w → wpAnyIn (Fence.wide.inRound l) n P md ops Q fuel listed a w
  | 0, _, _, _, h => h
  | fuel + 1, listed, a, w, h => ⟨h.1, fun i hi => opIn_at hd hQ (fun a w => anyIn_of hd hQ fuel _ a w) (h.2 i hi)⟩
def noDefer (ops : Array Oper) : Bool := ops.all fun o => match o.op with
  | .defer _ => false
  | _ => true
theorem noDefer_spec (h : noDefer ops = true) : ∀ (j : Nat) (o : Oper) c, ops[j]? = some o → o.op ≠ .defer c := by
  intro j o c hj e
  obtain ⟨hlt, rfl⟩ := Array.getElem?_eq_some_iff.1 hj
  unfold noDefer at h
  rw [Array.all_eq_true] at h
  have := h j hlt
  rw [e] at this
  cases this
theorem regionR {id : Nat} {a : Act} {w : World} (S : World → Prop) (k : Nat) (plan : List (Nat × Nat)) (hm : P.follows .mixedOrders = true) (hs : Region.noSelect ops = true) (hd : noDefer ops = true) (hl : plan.length = ops.size) (hok : planOk .any ops k plan (Array.replicate ops.size false) = true)
    (hQ : ¬ LetsOut Q) (hS : S w.drew) (h : wpPlan P ops Q S plan a w.drew) : (Code.region id ops true).wpIn (Fence.wide.inRound l) n P Q a w := by
  refine wpIn_region_any hm (anyIn_of (noDefer_spec hd) hQ _ _ _ _ (wpAny_of_G (S := S) (k := k) _ _ _ _ ?_))
  rw [← hl]
  rw [← hl] at hok
  exact any_of_plan hs plan _ a _ hok (fun _ => hS) h
end
end Go.Proofs.YtbklhcjcgiblkaaDoor.RegP
end
section
set_option linter.unusedSimpArgs false
set_option linter.unusedVariables false
namespace Go.Proofs.YtbklhcjcgiblkaaDoor.Ck
open Go.RowKit Go.Lib Go.Shelf Go.Maps Go.Proofs.YtbklhcjcgiblkaaDoorW.PrintWords Go.Proofs.YtbklhcjcgiblkaaDoorW.PrintLast Go.Proofs.YtbklhcjcgiblkaaDoorW.PrintMore Go.Proofs.YtbklhcjcgiblkaaDoor.U Go.Proofs.YtbklhcjcgiblkaaDoor.P Go.Proofs.YtbklhcjcgiblkaaDoor.PTh Go.Proofs.YtbklhcjcgiblkaaDoor.MapV Go.Proofs.YtbklhcjcgiblkaaDoor.Rng
structure Mut (X : Nat → Prop) (w w' : World) : Prop where
  os : w'.os = w.os
  tape : w'.tape = w.tape
  output : w'.output = w.output
  size : w.heap.size ≤ w'.heap.size
  same : ∀ k, k < w.heap.size → ¬ X k → w'.heap[k]? = w.heap[k]?
section
variable {X Y : Nat → Prop} {w w1 w2 : World}
theorem Mut.refl (X : Nat → Prop) (w : World) : Mut X w w := ⟨rfl, rfl, rfl, Nat.le_refl _, fun _ _ _ => rfl⟩
theorem Mut.trans (h : Mut X w w1) (k : Mut Y w1 w2) (hxy : ∀ i, i < w.heap.size → Y i → X i) : Mut X w w2 :=
  ⟨k.os.trans h.os, k.tape.trans h.tape, k.output.trans h.output, Nat.le_trans h.size k.size, fun i hi hx => (k.same i (Nat.lt_of_lt_of_le hi h.size) (fun hy => hx (hxy i hi hy))).trans (h.same i hi hx)⟩
theorem Mut.of_below (h : Below w.heap.size w w1) : Mut X w w1 := ⟨h.os, h.tape, h.output, h.size, fun i hi _ => h.block i hi⟩
theorem Mut.mono (h : Mut X w w1) (hxy : ∀ i, i < w.heap.size → X i → Y i) : Mut Y w w1 := ⟨h.os, h.tape, h.output, h.size, fun i hi hy => h.same i hi (fun hx => hy (hxy i hi hx))⟩
theorem Mut.below {B : Nat} (h : Mut X w w1) (hB : ∀ i, X i → B ≤ i) (hw : B ≤ w.heap.size) : Below B w w1 := ⟨h.os, h.tape, h.output, h.size, fun i hi => h.same i (by omega) (fun hx => by have := hB i hx; omega)⟩
theorem Mut.grown {row : Option Nat} (h : Mut X w w1) (hg : w1.grownBy w2 row) (hr : ∀ k, row = some k → k < w.heap.size → X k) : Mut X w w2 :=
  ⟨hg.os.trans h.os, hg.tape.trans h.tape, hg.output.trans h.output, Nat.le_trans h.size hg.size, fun i hi hx => (hg.block i (Nat.lt_of_lt_of_le hi h.size) (fun e => hx (hr i e.symm hi))).trans (h.same i hi hx)⟩
theorem Mut.set (h : Mut X w w1) (p : Addr) (v : Value) (hp : p.block < w.heap.size → X p.block) : Mut X w (w1.setCell p v) :=
  ⟨h.os, h.tape, h.output, by simpa using h.size, fun i hi hx => (Below.heap_setCell w1 p v i (fun e => hx (by rw [e] at hi ⊢; exact hp hi))).trans (h.same i hi hx)⟩
theorem Mut.keeps {B : Nat} (h : Mut X w w1) (hX : ∀ k, X k → ∃ cs t, w.heap[k]? = some (.cells cs t (0, 0))) : KeepsFrom B w w1 :=
  ⟨h.size, fun k o _ hk ho => (h.same k (Array.getElem?_eq_some_iff.1 hk).1 (fun hx => by
    obtain ⟨cs, t, e⟩ := hX k hx
    rw [hk] at e; injection e with e; subst e; simp [Obj.isCells] at ho)).trans hk⟩
end
def Fresh (N : Nat) (v v' : Value) : Prop := v'.ownBlock = v.ownBlock ∨ ∃ b, v'.ownBlock = some b ∧ N ≤ b
theorem Fresh.refl (N : Nat) (v : Value) : Fresh N v v := .inl rfl
theorem Fresh.trans {N M : Nat} {a b c : Value} (h : Fresh N a b) (k : Fresh M b c) (hn : N ≤ M) : Fresh N a c := by
  rcases k with k | ⟨x, k, hx⟩
  · rcases h with h | ⟨y, h, hy⟩
    · exact .inl (k.trans h)
    · exact .inr ⟨y, k.trans h, hy⟩
  · exact .inr ⟨x, k, by omega⟩
theorem Fresh.mono {N M : Nat} {a b : Value} (h : Fresh N a b) (hm : M ≤ N) : Fresh M a b := by
  rcases h with h | ⟨y, h, hy⟩
  · exact .inl h
  · exact .inr ⟨y, h, by omega⟩
def strs (l : List Txt) : List Value := l.map fun t => Value.string (B t)
structure PSt (K : CK) (w : World) (s : PS) (vf vo : Value) : Prop where
  at_ : K.At w vf (s.many : Int)
  f : w.ownsRow (K.w0.heap.size + 1) 9 1 vf s.found.length (strs s.found)
  o : w.ownsRow (K.w0.heap.size + 1) 5 1 vo s.out.length (bcells s.out)
  lo : s.out.length ≤ 65536
  lm : s.many ≤ 1000
  lf : s.found.length ≤ s.many
  lt : ∀ t ∈ s.found, t.length ≤ 1000
def XP (K : CK) (vf vo : Value) (k : Nat) : Prop := k = K.w0.heap.size ∨ vf.ownBlock = some k ∨ vo.ownBlock = some k
theorem XP.ge {K : CK} {w : World} {s : PS} {vf vo : Value} (h : PSt K w s vf vo) {k : Nat} (hx : XP K vf vo k) : K.w0.heap.size ≤ k := by
  rcases hx with rfl | hx | hx
  · exact Nat.le_refl _
  · have := own_base h.f k hx; omega
  · have := own_base h.o k hx; omega
theorem XP.cells {K : CK} {w : World} {s : PS} {vf vo : Value} (h : PSt K w s vf vo) {k : Nat} (hx : XP K vf vo k) : ∃ cs t, w.heap[k]? = some (.cells cs t (0, 0)) := by
  rcases hx with rfl | hx | hx
  · exact ⟨_, _, h.at_.h⟩
  · obtain ⟨cs, e⟩ := own_typed h.f k hx; exact ⟨cs, _, e⟩
  · obtain ⟨cs, e⟩ := own_typed h.o k hx; exact ⟨cs, _, e⟩
theorem PSt.rows {K : CK} {w : World} {s : PS} {vf vo : Value} (h : PSt K w s vf vo) {k : Nat} (hf : vf.ownBlock = some k) : vo.ownBlock ≠ some k := by
  intro ho
  obtain ⟨cs, e1⟩ := own_typed h.f k hf
  obtain ⟨cs2, e2⟩ := own_typed h.o k ho
  rw [e1] at e2
  injection e2 with e2
  injection e2 with _ e2 _
  exact absurd e2 (by decide)
def Puts (K : CK) (r : Option PS) (w : World) (vf vo : Value) (e : Ending) (w' : World) : Prop := Mut (XP K vf vo) w w' ∧ match r with
  | none => e = fl
  | some s => ∃ vf' vo', e = .returned vo' ∧ PSt K w' s vf' vo' ∧ Fresh w.heap.size vf vf' ∧ Fresh w.heap.size vo vo'
theorem PSt.move {K : CK} {w w' : World} {s : PS} {vf vo : Value} (h : PSt K w s vf vo) (hb : Below K.w0.heap.size w w') (hk : ∀ k, XP K vf vo k → w'.heap[k]? = w.heap[k]?) : PSt K w' s vf vo :=
  ⟨⟨(hk _ (.inl rfl)).trans h.at_.h, h.at_.b.trans hb⟩, own_move h.f (fun k e => hk k (.inr (.inl e))), own_move h.o (fun k e => hk k (.inr (.inr e))), h.lo, h.lm, h.lf, h.lt⟩
theorem PSt.below {K : CK} {w w' : World} {s : PS} {vf vo : Value} (h : PSt K w s vf vo) (hb : Below w.heap.size w w') : PSt K w' s vf vo :=
  h.move (hb.mono h.at_.b.size) (fun k hx => by obtain ⟨cs, t, e⟩ := XP.cells h hx; exact hb.block k (Array.getElem?_eq_some_iff.1 e).1)
structure PInv (K : CK) (w : World) (N q deep : Nat) (vf0 vo0 : Value) (W : World) (s : PS) (vf vo : Value) : Prop where
  st : PSt K W s vf vo
  hc : W.heap[q]? = some (.cells #[at0 K.w0.heap.size] 50 (0, 0))
  ho : W.heap[q + 1]? = some (.cells #[vo] 24 (0, 0))
  hd : W.heap[q + 2]? = some (.cells #[.int .i64 (deep : Int)] 3 (0, 0))
  mu : Mut (XP K vf0 vo0) w W
  ff : Fresh N vf0 vf
  fo : Fresh N vo0 vo
theorem PInv.stay {K : CK} {w : World} {N q deep : Nat} {vf0 vo0 : Value} {W W' : World} {s : PS} {vf vo : Value} (h : PInv K w N q deep vf0 vo0 W s vf vo) (hb : Below K.w0.heap.size W W') (hm : Mut (fun _ => False) w w → True)
    (hk : ∀ k, XP K vf vo k ∨ k = q ∨ k = q + 1 ∨ k = q + 2 → W'.heap[k]? = W.heap[k]?) (hw : ∀ k, k < w.heap.size → W'.heap[k]? = W.heap[k]?) : PInv K w N q deep vf0 vo0 W' s vf vo :=
  ⟨h.st.move hb (fun k hx => hk k (.inl hx)), (hk _ (.inr (.inl rfl))).trans h.hc, (hk _ (.inr (.inr (.inl rfl)))).trans h.ho, (hk _ (.inr (.inr (.inr rfl)))).trans h.hd,
    ⟨hb.os.trans h.mu.os, hb.tape.trans h.mu.tape, hb.output.trans h.mu.output, Nat.le_trans h.mu.size hb.size, fun k hk' hx => (hw k hk').trans (h.mu.same k hk' hx)⟩, h.ff, h.fo⟩
theorem linesP_append (fs : List FileL) (r : PS → Txt → Option PS) : ∀ (a b : List Txt) (s : PS), linesP fs r (a ++ b) s = (linesP fs r a s).bind (linesP fs r b)
  | [], b, s => rfl
  | l :: a, b, s => by
    rw [List.cons_append, linesP, linesP]
    split
    · split
      · exact linesP_append fs r a b _
      · rfl
    · split
      · rfl
      · split
        · split
          · rfl
          · exact linesP_append fs r a b _
        · rfl
theorem linesP_none {fs : List FileL} {r : PS → Txt → Option PS} {a b xs : List Txt} {s s1 : PS} (h : linesP fs r a s = some s1) (hb : linesP fs r b s1 = none) (hp : a ++ b <+: xs) : linesP fs r xs s = none := by
  obtain ⟨c, rfl⟩ := hp
  rw [linesP_append, linesP_append, h]
  simp only [Option.bind_some, hb, Option.bind_none]
theorem linesP_some {fs : List FileL} {r : PS → Txt → Option PS} {a b : List Txt} {s s1 s2 : PS} (h : linesP fs r a s = some s1) (hb : linesP fs r b s1 = some s2) : linesP fs r (a ++ b) s = some s2 := by
  rw [linesP_append, h]; exact hb
end Go.Proofs.YtbklhcjcgiblkaaDoor.Ck
end
section
set_option linter.unusedSimpArgs false
set_option linter.unusedVariables false
namespace Go.Proofs.YtbklhcjcgiblkaaDoor.Ck
open Go.RowKit Go.Lib Go.Shelf Go.Maps Go.Proofs.YtbklhcjcgiblkaaDoorW.PrintWords Go.Proofs.YtbklhcjcgiblkaaDoorW.PrintLast Go.Proofs.YtbklhcjcgiblkaaDoorW.PrintMore Go.Proofs.YtbklhcjcgiblkaaDoor.U Go.Proofs.YtbklhcjcgiblkaaDoor.P Go.Proofs.YtbklhcjcgiblkaaDoor.PTh Go.Proofs.YtbklhcjcgiblkaaDoor.MapV Go.Proofs.YtbklhcjcgiblkaaDoor.Rng
set_option maxRecDepth 100000 in
set_option maxHeartbeats 4000000 in
theorem cutp1_any (l : Txt) (w : World) (hl : l.length ≤ 1000000) :
    Calls Tryd.prog 74 #[.string (B l), .string ⟨#[35, 105, 110, 99, 108, 117, 100, 101, 32]⟩] w fun e w' => e = .returned (.tuple #[.string (B (if kInclude.isPrefixOf l = true then l.drop 9 else l)), .bool (kInclude.isPrefixOf l)]) ∧ w' = w := by
  have hP := Lib.hid (Tryd.stringslite_HasPrefix (B l) (B kInclude) w)
  rw [data_B, data_B] at hP
  have hq : Hid (Lib.hasPrefix l kInclude = kInclude.isPrefixOf l) := rfl
  rw [hq.out] at hP
  have hlen : Hid (kInclude.isPrefixOf l = true → 9 ≤ l.length) := fun h => by
    rw [List.isPrefixOf_iff_prefix] at h
    exact h.length_le
  clear hq
  generalize kInclude.isPrefixOf l = p at *
  go_enter Tryd.func74, Tryd.ntmps74
  go_wp2_with fail
  refine hP.out.mono ?_
  rintro e w1 ⟨rfl, rfl⟩
  cases p with
  | false =>
    go_wp2_with fail
    go_ret2
    exact ⟨rfl, rfl⟩
  | true =>
    have h9 := hlen.out rfl
    have h9i : (9 : Int) ≤ (l.length : Int) := by omega
    have hsz : (B l).size = l.length := size_B l
    have hex : (B l).extract 9 l.length = B (l.drop 9) := by rw [extract_B, List.take_length]
    go_wp2_with fail
    go_ret2
    exact ⟨rfl, rfl⟩
set_option maxRecDepth 100000 in
set_option maxHeartbeats 4000000 in
theorem cutp_any (l : Txt) (w : World) (hl : l.length ≤ 1000000) :
    Calls Tryd.prog 58 #[.string (B l), .string ⟨#[35, 105, 110, 99, 108, 117, 100, 101, 32]⟩] w fun e w' => e = .returned (.tuple #[.string (B (if kInclude.isPrefixOf l = true then l.drop 9 else l)), .bool (kInclude.isPrefixOf l)]) ∧ w' = w := by
  have hP := Lib.hid (cutp1_any l w hl)
  generalize kInclude.isPrefixOf l = p at *
  generalize (if p = true then l.drop 9 else l) = r at *
  go_enter Tryd.func58, Tryd.ntmps58
  go_wp2_with fail
  refine hP.out.mono ?_
  rintro e w1 ⟨rfl, rfl⟩
  go_wp2_with fail
  go_ret2
  exact ⟨rfl, rfl⟩
theorem trim_eq (l : Txt) : Lib.trimSuffix l [10] = trimNL l := by
  unfold Lib.trimSuffix trimNL Lib.hasSuffix
  by_cases h : l.getLast? = some 10
  · obtain ⟨a, rfl⟩ : ∃ a, l = a ++ [10] := List.getLast?_eq_some_iff.1 h
    simp
  · rw [if_neg h]
    have : ([10] : Txt).isSuffixOf l = false := by
      cases hq : ([10] : Txt).isSuffixOf l with
      | false => rfl
      | true =>
        rw [List.isSuffixOf_iff_suffix] at hq
        obtain ⟨a, ha⟩ := hq
        exact absurd (by rw [← ha]; simp) h
    rw [this]; rfl
theorem trimN_any (l : Txt) (w : World) (hl : l.length ≤ 1000000) :
    Calls Tryd.prog 59 #[.string (B l), .string ⟨#[10]⟩] w fun e w' => e = .returned (.string (B (trimNL l))) ∧ w' = w := by
  have := Tryd.strings_TrimSuffix (B l) (B [10]) w (by rw [size_B]; omega)
  refine this.mono ?_
  rintro e w' ⟨rfl, hw⟩
  refine ⟨?_, hw⟩
  show Ending.returned (.string ⟨(Lib.trimSuffix l [10]).toArray⟩) = _
  rw [trim_eq]
set_option maxRecDepth 100000 in
set_option maxHeartbeats 4000000 in
theorem splitSeq_any (s sep : ByteArray) (k : Int) (w : World) :
    Calls Tryd.prog 73 #[.string s, .string sep, .int .i64 k] w fun e w' => e = .returned (.func (.func 85) #[] #[.pointer (some ⟨w.heap.size + 1, 0, none⟩), .pointer (some ⟨w.heap.size, 0, none⟩), .pointer (some ⟨w.heap.size + 2, 0, none⟩)]) ∧
      ((w.alloc (.cells #[.string s] 9)).alloc (.cells #[.string sep] 9)).alloc (.cells #[.int .i64 k] 3) = w' := by
  have hmf : ∀ (fn : Fn) (first cap : Array Value) (w : World), (Instr.makeFunc fn first cap).run Tryd.prog w = .ok (.func fn first cap) w := fun _ _ _ _ => rfl
  go_enter Tryd.func73, Tryd.ntmps73
  go_wp2_with fail
  go_ret
  exact ⟨rfl, rfl⟩
set_option maxRecDepth 100000 in
set_option maxHeartbeats 4000000 in
theorem splitAfter_any (s : ByteArray) (w : World) :
    Calls Tryd.prog 57 #[.string s, .string ⟨#[10]⟩] w fun e w' => e = .returned (.func (.func 85) #[] #[.pointer (some ⟨w.heap.size + 1, 0, none⟩), .pointer (some ⟨w.heap.size, 0, none⟩), .pointer (some ⟨w.heap.size + 2, 0, none⟩)]) ∧
      ((w.alloc (.cells #[.string s] 9)).alloc (.cells #[.string ⟨#[10]⟩] 9)).alloc (.cells #[.int .i64 1] 3) = w' := by
  go_enter Tryd.func57, Tryd.ntmps57
  go_wp2_with fail
  refine (splitSeq_any _ _ _ _).mono ?_
  rintro e w1 ⟨rfl, hw⟩
  go_wp2_with fail
  go_ret
  exact ⟨rfl, hw⟩
end Go.Proofs.YtbklhcjcgiblkaaDoor.Ck
end
section
set_option linter.unusedSimpArgs false
set_option linter.unusedVariables false
namespace Go.Proofs.YtbklhcjcgiblkaaDoor.Ck
open Go.RowKit Go.Lib Go.Shelf Go.Maps Go.Proofs.YtbklhcjcgiblkaaDoorW.PrintWords Go.Proofs.YtbklhcjcgiblkaaDoorW.PrintLast Go.Proofs.YtbklhcjcgiblkaaDoorW.PrintMore Go.Proofs.YtbklhcjcgiblkaaDoor.U Go.Proofs.YtbklhcjcgiblkaaDoor.P Go.Proofs.YtbklhcjcgiblkaaDoor.PTh Go.Proofs.YtbklhcjcgiblkaaDoor.MapV Go.Proofs.YtbklhcjcgiblkaaDoor.Rng
theorem run_append_str_hat {P : Program} (w : World) (base : Nat) (t u ty e : TypeId) (i : TypeInfo) (ht : P.underlying t = some (.slice e)) (hu : P.underlying u = some .string) (hi : P.info? e = some i) (hz : i.zero = some (.int .u8 0))
    (hsize : i.size = 1) (hby : i.bytes = 1) (v : Value) (n : Nat) (xs : List Value) (hown : w.ownsRow base e 1 v n xs) (s : ByteArray)
    (h63 : n + s.size ≤ maxLen) (hbytes : n + s.size ≤ 140737488355328) (hbase : base ≤ w.heap.size) :
    ∃ v' w', (Builtin.append_ #[t, u] ty #[v, .string s]).run P w = .ok v' w' ∧ w'.ownsRow base e 1 v' (n + s.size) (xs ++ Lib.strCells s) ∧ w.grownBy w' v.ownBlock ∧ Fresh w.heap.size v v' := by
  obtain ⟨v', w', hr, h1, h2, h3⟩ := Lib.run_append_own_string (P := P) w base t u ty e i ht hu hi hz hsize hby v n xs hown s h63 hbytes hbase
  refine ⟨v', w', hr, h1, h2, ?_⟩
  have hxl : xs.length = n := by simpa using hown.1
  have hsmall : n + s.size ≤ 9223372036854775807 := by omega
  rcases hown.2 with ⟨rfl, rfl⟩ | ⟨g, cap, cur, rfl, hbg, hg, hnc, hcm, hcs, htake⟩
  · have hx : xs = [] := List.eq_nil_of_length_eq_zero hxl
    subst hx
    obtain ⟨v2, w2, hr2, k1, _, _⟩ := Lib.run_append_own_string (P := P) w w.heap.size t u ty e i ht hu hi hz hsize hby (.slice none 0 0) 0 [] (World.ownsRow_nil w _ e 1) s h63 hbytes (Nat.le_refl _)
    rw [hr] at hr2
    injection hr2 with e1 e2
    subst e1
    cases hb : v'.ownBlock with
    | none => exact .inl (hb.trans rfl)
    | some b => exact .inr ⟨b, hb, own_base k1 b hb⟩
  · by_cases hroom : n + s.size ≤ cap
    · have hcs' : cur.size = cap := by simpa using hcs
      have hr2 := Lib.run_append_room_string (P := P) w t u ty e i ht hu hi hsize g n cap cur hg s hroom (by omega)
      rw [hr] at hr2
      injection hr2 with e1 e2
      subst e1
      exact .inl rfl
    · have holds : ∀ j u, xs[j]? = some u → w.cell? ((⟨g, 0, none⟩ : Addr).add j) = some u := hown.cells (g := g) rfl
      have hr2 := Lib.run_append_grow_string (P := P) w t u ty e i (.int .u8 0) ht hu hi hz ⟨g, 0, none⟩ n cap xs (by rw [hsize]; simpa using hxl) holds s (by omega) (by omega) (by rw [hby]; exact growslice_fits (by omega) (by omega))
      rw [hr] at hr2
      injection hr2 with e1 e2
      subst e1
      exact .inr ⟨w.heap.size, rfl, Nat.le_refl _⟩
theorem append_text {l n : Nat} {ops : Array Oper} {rest : List Oper} {o : Oper} {a : Act} {Q : Exit → Act → World → Prop} {W : World} (base : Nat) (hgd : o.guard = none) (x y : Operand)
    (ho : o.op = .call { callee := .builtin .append, args := #[x, y], argTypes := #[24, 9] })
    (v : Value) (out p : Txt) (hx : a.eval x = v) (hy : a.eval y = .string (B p)) (hown : W.ownsRow base 5 1 v out.length (bcells out)) (hl : out.length + p.length ≤ 1000000) (hbase : base ≤ W.heap.size)
    (h : ∀ v' w', w'.ownsRow base 5 1 v' (out ++ p).length (bcells (out ++ p)) → W.grownBy w' v.ownBlock → Fresh W.heap.size v v' → wpListIn (Fence.wide.inRound l) n Tryd.prog ops Q rest (a.put o.dst v') w') :
    wpListIn (Fence.wide.inRound l) n Tryd.prog ops Q (o :: rest) a W := by
  refine wpListIn_plain hgd fun K hK => ?_
  obtain ⟨i0, hi, hz0, hz1, hz2⟩ := info_parts infoU8
  have hsz : (B p).size = p.length := size_B p
  obtain ⟨v', w', hr, h1, h2, h3⟩ := run_append_str_hat (P := Tryd.prog) W base 24 9 o.type 5 i0 Tryd.underlying24 Tryd.underlying9 hi hz0 hz1 hz2 v out.length (bcells out) hown (B p) (by rw [hsz]; unfold maxLen; omega) (by rw [hsz]; omega) hbase
  have hc : bcells out ++ Lib.strCells (B p) = bcells (out ++ p) := by rw [bcells_append]; congr 1
  rw [hc, hsz, ← List.length_append] at h1
  unfold Oper.wpIn
  refine ⟨?_, ?_⟩
  · simp [Oper.about, ho, resolve, Target.leads, Sem.run_pure]
  · rw [Oper.semAt_plain _ _ _ (by rw [ho]; intro c hc'; cases hc')]
    simp [execOp, ho, resolve, invoke, builtin, hx, hy, hr, Result.andThen]
    exact hK _ _ (h v' w' h1 h2 h3)
end Go.Proofs.YtbklhcjcgiblkaaDoor.Ck
end
section
set_option linter.unusedSimpArgs false
set_option linter.unusedVariables false
namespace Go.Proofs.YtbklhcjcgiblkaaDoor.Ck
open Go.RowKit Go.Lib Go.Shelf Go.Maps Go.Proofs.YtbklhcjcgiblkaaDoorW.PrintWords Go.Proofs.YtbklhcjcgiblkaaDoorW.PrintLast Go.Proofs.YtbklhcjcgiblkaaDoorW.PrintMore Go.Proofs.YtbklhcjcgiblkaaDoor.U Go.Proofs.YtbklhcjcgiblkaaDoor.P Go.Proofs.YtbklhcjcgiblkaaDoor.PTh Go.Proofs.YtbklhcjcgiblkaaDoor.MapV Go.Proofs.YtbklhcjcgiblkaaDoor.Rng
structure Base (K : CK) (w : World) (N : Nat) (vf0 vo0 : Value) : Prop where
  kb : K.w0.heap.size < w.heap.size
  n : w.heap.size + 6 ≤ N
  f : ∀ k, vf0.ownBlock = some k → k < w.heap.size
  o : ∀ k, vo0.ownBlock = some k → k < w.heap.size
theorem Base.mk' {K : CK} {w : World} {s : PS} {vf vo : Value} {N : Nat} (h : PSt K w s vf vo) (hn : w.heap.size + 6 ≤ N) : Base K w N vf vo :=
  ⟨(Array.getElem?_eq_some_iff.1 h.at_.h).1, hn, fun k e => own_lt h.f k e, fun k e => own_lt h.o k e⟩
section
variable {K : CK} {w : World} {N q deep : Nat} {vf0 vo0 : Value} {W W' W3 : World} {s s3 : PS} {vf vo vf3 vo3 : Value}
theorem PInv.xp (h : PInv K w N q deep vf0 vo0 W s vf vo) (hB : Base K w N vf0 vo0) {k : Nat} (hx : XP K vf vo k) : (XP K vf0 vo0 k ∧ k < w.heap.size) ∨ N ≤ k := by
  rcases hx with rfl | hx | hx
  · exact .inl ⟨.inl rfl, hB.kb⟩
  · rcases h.ff with e | ⟨b, e, hb⟩
    · rw [e] at hx; exact .inl ⟨.inr (.inl hx), hB.f k hx⟩
    · rw [e] at hx; injection hx with hx; subst hx; exact .inr hb
  · rcases h.fo with e | ⟨b, e, hb⟩
    · rw [e] at hx; exact .inl ⟨.inr (.inr hx), hB.o k hx⟩
    · rw [e] at hx; injection hx with hx; subst hx; exact .inr hb
theorem PInv.own (h : PInv K w N q deep vf0 vo0 W s vf vo) (hB : Base K w N vf0 vo0) {row : Option Nat} (hg : W.grownBy W' row) (hr : ∀ r, row = some r → N ≤ r ∧ ∃ o : Obj, W.heap[r]? = some o ∧ o.isCells = false) : PInv K w N q deep vf0 vo0 W' s vf vo := by
  have hne : ∀ (k : Nat) (cs : Array Value) (t : TypeId), W.heap[k]? = some (Obj.cells cs t (0, 0)) → W'.heap[k]? = W.heap[k]? := fun k cs t e => hg.block k (Array.getElem?_eq_some_iff.1 e).1 (fun er => by
    obtain ⟨_, o, ho, hc⟩ := hr k er.symm
    rw [e] at ho; injection ho with ho; subst ho; simp [Obj.isCells] at hc)
  have hlt : ∀ k, k < w.heap.size → W'.heap[k]? = W.heap[k]? := fun k hk => hg.block k (Nat.lt_of_lt_of_le hk h.mu.size) (fun er => by have := (hr k er.symm).1; have := hB.n; omega)
  refine h.stay ⟨hg.os, hg.tape, hg.output, hg.size, fun k hk => hlt k (Nat.lt_trans hk hB.kb)⟩ (fun _ => trivial) (fun k hk => ?_) hlt
  rcases hk with hk | rfl | rfl | rfl
  · obtain ⟨cs, t, e⟩ := XP.cells h.st hk; exact hne _ _ _ e
  · exact hne _ _ _ h.hc
  · exact hne _ _ _ h.ho
  · exact hne _ _ _ h.hd
theorem PInv.other (h : PInv K w N q deep vf0 vo0 W s vf vo) (hB : Base K w N vf0 vo0) (hq : q = w.heap.size) (x : Nat) (hx1 : w.heap.size + 3 ≤ x) (hx2 : x < N) (j : Nat) (v : Value) : PInv K w N q deep vf0 vo0 (W.setCell ⟨x, j, none⟩ v) s vf vo := by
  have hne : ∀ k, k ≠ x → (W.setCell ⟨x, j, none⟩ v).heap[k]? = W.heap[k]? := fun k hk => Below.heap_setCell _ _ _ _ hk
  refine h.stay ⟨rfl, rfl, rfl, by simp, fun k hk => hne k (by have := hB.kb; omega)⟩ (fun _ => trivial) (fun k hk => ?_) (fun k hk => hne k (by omega))
  rcases hk with hk | rfl | rfl | rfl
  · rcases h.xp hB hk with hk | hk
    · exact hne _ (by omega)
    · exact hne _ (by omega)
  · exact hne _ (by omega)
  · exact hne _ (by omega)
  · exact hne _ (by omega)
theorem typed_ne {k : Nat} {cs cs' : Array Value} {t t' : TypeId} {fr fr' : Nat × Nat} (h : W.heap[k]? = some (.cells cs t fr)) (h' : W.heap[k]? = some (.cells cs' t' fr')) : t = t' := by
  rw [h] at h'; injection h' with h'; injection h'
theorem PSt.not_xp (h : PSt K W s vf vo) {k : Nat} {cs : Array Value} {t : TypeId} (hk : W.heap[k]? = some (.cells cs t (0, 0))) (h1 : t ≠ 52) (h2 : t ≠ 9) (h3 : t ≠ 5) : ¬ XP K vf vo k := by
  rintro (rfl | hx | hx)
  · exact h1 (typed_ne hk h.at_.h)
  · obtain ⟨cs', e⟩ := own_typed h.f k hx; exact h2 (typed_ne hk e)
  · obtain ⟨cs', e⟩ := own_typed h.o k hx; exact h3 (typed_ne hk e)
theorem PInv.step (h : PInv K w N q deep vf0 vo0 W s vf vo) (hB : Base K w N vf0 vo0) (hq : q = w.heap.size) (hS : PSt K W3 s3 vf3 vo3) (hM : Mut (XP K vf vo) W W3) (ff : Fresh W.heap.size vf vf3) (fo : Fresh W.heap.size vo vo3) (hN : N ≤ W.heap.size) :
    PInv K w N q deep vf0 vo0 (W3.setCell ⟨q + 1, 0, none⟩ vo3) s3 vf3 vo3 := by
  have n0 := h.st.not_xp h.hc (by decide) (by decide) (by decide)
  have n1 := h.st.not_xp h.ho (by decide) (by decide) (by decide)
  have n2 := h.st.not_xp h.hd (by decide) (by decide) (by decide)
  have e0 := (hM.same q (Array.getElem?_eq_some_iff.1 h.hc).1 n0).trans h.hc
  have e1 := (hM.same (q + 1) (Array.getElem?_eq_some_iff.1 h.ho).1 n1).trans h.ho
  have e2 := (hM.same (q + 2) (Array.getElem?_eq_some_iff.1 h.hd).1 n2).trans h.hd
  have m1 := hS.not_xp e1 (by decide) (by decide) (by decide)
  have hne : ∀ k, k ≠ q + 1 → (W3.setCell ⟨q + 1, 0, none⟩ vo3).heap[k]? = W3.heap[k]? := fun k hk => Below.heap_setCell _ _ _ _ hk
  refine ⟨hS.move ⟨rfl, rfl, rfl, by simp, fun k hk => hne k (by have := hB.kb; omega)⟩ (fun k hk => hne k (fun e => m1 (e ▸ hk))), (hne _ (by omega)).trans e0, blk_put e1 0 vo3 rfl, (hne _ (by omega)).trans e2, ?_, Fresh.trans h.ff ff hN, Fresh.trans h.fo fo hN⟩
  refine Mut.set (h.mu.trans hM (fun i hi hx => ?_)) _ _ (fun hh => absurd hh (by show ¬ q + 1 < _; omega))
  rcases h.xp hB hx with hx | hx
  · exact hx.1
  · have := hB.n; omega
theorem PInv.keeps (h : PInv K w N q deep vf0 vo0 W s vf vo) (hM : Mut (XP K vf vo) W W3) (v : Value) : KeepsFrom N W (W3.setCell ⟨q + 1, 0, none⟩ v) :=
  (hM.keeps (fun k hk => XP.cells h.st hk)).trans ((KeepsOthers.setCell _ _ _).from _)
theorem PInv.kept3 (h : PInv K w N q deep vf0 vo0 W s vf vo) (hB : Base K w N vf0 vo0) (hq : q = w.heap.size) (hM : Mut (XP K vf vo) W W3) (hN : N ≤ W.heap.size) (x : Nat) (hx1 : w.heap.size + 3 ≤ x) (hx2 : x + 2 < N) (v : Value) : Kept3 x W (W3.setCell ⟨q + 1, 0, none⟩ v) := by
  have hk : ∀ k, w.heap.size + 3 ≤ k → k < N → (W3.setCell ⟨q + 1, 0, none⟩ v).heap[k]? = W.heap[k]? := fun k h1 h2 => by
    refine (Below.heap_setCell _ _ _ _ (by show k ≠ q + 1; omega)).trans (hM.same k (by omega) (fun hx => ?_))
    rcases h.xp hB hx with hx | hx <;> omega
  exact ⟨hk _ (by omega) (by omega), hk _ (by omega) (by omega), hk _ (by omega) (by omega)⟩
theorem PSt.outs {out3 : Txt} (h : PSt K W s vf vo) (hown : W3.ownsRow (K.w0.heap.size + 1) 5 1 vo3 out3.length (bcells out3)) (hg : W.grownBy W3 vo.ownBlock) (hl : out3.length ≤ 65536) : PSt K W3 { s with out := out3 } vf vo3 := by
  have hlt := (Array.getElem?_eq_some_iff.1 h.at_.h).1
  refine ⟨⟨(hg.block _ hlt (fun e => by have := own_base h.o _ e.symm; omega)).trans h.at_.h, h.at_.b.trans ⟨hg.os, hg.tape, hg.output, hg.size, fun k hk => hg.block k (by omega) (fun e => by have := own_base h.o _ e.symm; omega)⟩⟩, own_move h.f (fun k e => hg.block k (own_lt h.f k e) (fun e2 => h.rows e e2.symm)), hown, hl, h.lm, h.lf, h.lt⟩
theorem Mut.out (h : PSt K W s vf vo) (hg : W.grownBy W3 vo.ownBlock) : Mut (XP K vf vo) W W3 := (Mut.refl _ _).grown hg (fun k e _ => .inr (.inr e))
theorem PInv.box (h : PInv K w N q deep vf0 vo0 W s vf vo) (hM : Mut (XP K vf vo) W W3) : W3.heap[q + 1]? = some (.cells #[vo] 24 (0, 0)) :=
  (hM.same (q + 1) (Array.getElem?_eq_some_iff.1 h.ho).1 (h.st.not_xp h.ho (by decide) (by decide) (by decide))).trans h.ho
theorem PInv.boxc (h : PInv K w N q deep vf0 vo0 W s vf vo) (hM : Mut (XP K vf vo) W W3) : W3.heap[q]? = some (.cells #[at0 K.w0.heap.size] 50 (0, 0)) :=
  (hM.same q (Array.getElem?_eq_some_iff.1 h.hc).1 (h.st.not_xp h.hc (by decide) (by decide) (by decide))).trans h.hc
theorem PInv.boxd (h : PInv K w N q deep vf0 vo0 W s vf vo) (hM : Mut (XP K vf vo) W W3) : W3.heap[q + 2]? = some (.cells #[.int .i64 (deep : Int)] 3 (0, 0)) :=
  (hM.same (q + 2) (Array.getElem?_eq_some_iff.1 h.hd).1 (h.st.not_xp h.hd (by decide) (by decide) (by decide))).trans h.hd
theorem PInv.mut (h : PInv K w N q deep vf0 vo0 W s vf vo) (hB : Base K w N vf0 vo0) (hM : Mut (XP K vf vo) W W3) : Mut (XP K vf0 vo0) w W3 :=
  h.mu.trans hM (fun i hi hx => by
    rcases h.xp hB hx with hx | hx
    · exact hx.1
    · have := hB.n; omega)
end
theorem row_reads {w : World} {base : Nat} {v : Value} {l : List Txt} (h : w.ownsRow base 9 1 v l.length (strs l)) : ∃ A c, v = .slice A l.length c ∧ l.length ≤ c ∧ Kd.C Kd.string w A l.length (l.map B) := by
  have he : encs Value.string (l.map B) = strs l := by
    induction l with
    | nil => rfl
    | cons x l ih => simp [encs, strs]
  have h' : w.ownsRow base 9 1 v (l.map B).length (encs Value.string (l.map B)) := by rw [he, List.length_map]; exact h
  have := Kd.R_reads (d := Kd.string) (e := 9) (Kd.R_of_own (ok := fun _ => True) (h1 := fun _ => rfl) h' (fun _ _ => trivial))
  rw [List.length_map] at this
  exact this
structure Mid (K : CK) (W : World) (s : PS) (vf vo : Value) : Prop where
  h : W.heap[K.w0.heap.size]? = some (.cells #[.slice K.Aa K.args.length K.ca, .slice K.Ad K.v.decl.length K.cd, .slice K.Af K.v.fs.length K.cf, vf, .int .i64 ((s.many : Int) + 1)] 52 (0, 0))
  b : Below K.w0.heap.size K.w0 W
  f : W.ownsRow (K.w0.heap.size + 1) 9 1 vf s.found.length (strs s.found)
  o : W.ownsRow (K.w0.heap.size + 1) 5 1 vo s.out.length (bcells s.out)
theorem Mid.of {K : CK} {W : World} {s : PS} {vf vo : Value} (h : PSt K W s vf vo) : Mid K (W.setCell ⟨K.w0.heap.size, 4, none⟩ (.int .i64 ((s.many : Int) + 1))) s vf vo :=
  ⟨blk_put h.at_.h 4 _ rfl, h.at_.b.setCell (p := ⟨K.w0.heap.size, 4, none⟩) (Nat.le_refl _) _, own_move h.f (fun k e => Below.heap_setCell _ _ _ _ (by have := own_base h.f k e; show k ≠ K.w0.heap.size; omega)), own_move h.o (fun k e => Below.heap_setCell _ _ _ _ (by have := own_base h.o k e; show k ≠ K.w0.heap.size; omega))⟩
theorem Mid.below {K : CK} {W W' : World} {s : PS} {vf vo : Value} (h : Mid K W s vf vo) (hb : Below W.heap.size W W') : Mid K W' s vf vo :=
  ⟨(hb.block _ (Array.getElem?_eq_some_iff.1 h.h).1).trans h.h, h.b.trans (hb.mono h.b.size), own_move h.f (fun k e => hb.block k (own_lt h.f k e)), own_move h.o (fun k e => hb.block k (own_lt h.o k e))⟩
theorem Mid.pst {K : CK} {W W0 : World} {s : PS} {vf vo : Value} (h : Mid K W s vf vo) (h0 : PSt K W0 s vf vo) (hm : s.many + 1 ≤ 1000) : PSt K W ⟨s.out, s.found, s.many + 1⟩ vf vo :=
  ⟨⟨h.h, h.b⟩, h.f, h.o, h0.lo, hm, by have := h0.lf; show s.found.length ≤ s.many + 1; omega, h0.lt⟩
theorem Mid.found {K : CK} {W W0 W8 : World} {s : PS} {vf vo v7 : Value} {nm : Txt} (h : Mid K W s vf vo) (h0 : PSt K W0 s vf vo) (hm : s.many + 1 ≤ 1000) (hn : nm.length ≤ 1000)
    (ho : W8.ownsRow (K.w0.heap.size + 1) 9 1 v7 (s.found.length + 1) (strs s.found ++ [.string (B nm)])) (hg : W.grownBy W8 vf.ownBlock) :
    PSt K (W8.setCell ⟨K.w0.heap.size, 3, none⟩ v7) ⟨s.out, s.found ++ [nm], s.many + 1⟩ v7 vo ∧ Mut (XP K vf vo) W (W8.setCell ⟨K.w0.heap.size, 3, none⟩ v7) ∧
      W8.heap[K.w0.heap.size]? = some (.cells #[.slice K.Aa K.args.length K.ca, .slice K.Ad K.v.decl.length K.cd, .slice K.Af K.v.fs.length K.cf, vf, .int .i64 ((s.many : Int) + 1)] 52 (0, 0)) := by
  have hlt := (Array.getElem?_eq_some_iff.1 h.h).1
  have hk : W8.heap[K.w0.heap.size]? = W.heap[K.w0.heap.size]? := hg.block _ hlt (fun e => by have := own_base h.f _ e.symm; omega)
  have hrows : ∀ k, vo.ownBlock = some k → some k ≠ vf.ownBlock := fun k e e2 => by
    obtain ⟨cs, e1⟩ := own_typed h.f k e2.symm
    obtain ⟨cs2, e2⟩ := own_typed h.o k e
    rw [e1] at e2
    injection e2 with e2
    injection e2 with _ e2 _
    exact absurd e2 (by decide)
  have hne : ∀ (W : World) (k : Nat) (v : Value), k ≠ K.w0.heap.size → (W.setCell ⟨K.w0.heap.size, 3, none⟩ v).heap[k]? = W.heap[k]? := fun W k v hk => Below.heap_setCell _ _ _ _ hk
  refine ⟨⟨⟨blk_put (hk.trans h.h) 3 v7 rfl, ?_⟩, ?_, ?_, h0.lo, hm, ?_, ?_⟩, ?_, hk.trans h.h⟩
  · exact (h.b.trans ⟨hg.os, hg.tape, hg.output, hg.size, fun k hk => hg.block k (by omega) (fun e => by have := own_base h.f _ e.symm; omega)⟩).setCell (p := ⟨K.w0.heap.size, 3, none⟩) (Nat.le_refl _) _
  · have : strs (s.found ++ [nm]) = strs s.found ++ [.string (B nm)] := List.map_append ..
    rw [this, List.length_append]
    exact own_move ho (fun k e => hne _ _ _ (by have := own_base ho k e; omega))
  · exact own_move (own_move h.o (fun k e => hg.block k (own_lt h.o k e) (hrows k e))) (fun k e => hne _ _ _ (by have := own_base h.o k e; omega))
  · have := h0.lf; show (s.found ++ [nm]).length ≤ s.many + 1; rw [List.length_append, List.length_singleton]; omega
  · intro t ht
    rcases List.mem_append.1 ht with ht | ht
    · exact h0.lt t ht
    · rw [List.mem_singleton.1 ht]; exact hn
  · exact ((Mut.refl _ _).grown hg (fun k e _ => .inr (.inl e))).set _ _ (fun _ => .inl rfl)
theorem splitK_mem (c : UInt8) (k : Nat) (hk : k ≤ 1) : ∀ (l p : Txt), p ∈ splitK c k l → p.length ≤ l.length
  | [], p, h => by simp [splitK] at h; simp [h]
  | b :: l, p, h => by
    unfold splitK at h
    split at h
    · rcases List.mem_cons.1 h with rfl | h
      · rw [List.length_take, List.length_cons]; simp; omega
      · have := splitK_mem c k hk l p h; rw [List.length_cons]; omega
    · split at h
      · rw [List.mem_singleton.1 h]; simp
      · rename_i p' ps he
        rcases List.mem_cons.1 h with rfl | h
        · have := splitK_mem c k hk l p' (by rw [he]; simp)
          rw [List.length_cons, List.length_cons]; omega
        · have := splitK_mem c k hk l p (by rw [he]; exact List.mem_cons_of_mem _ h)
          rw [List.length_cons]; omega
end Go.Proofs.YtbklhcjcgiblkaaDoor.Ck
end
section
set_option linter.unusedSimpArgs false
set_option linter.unusedVariables false
namespace Go.Proofs.YtbklhcjcgiblkaaDoor.Ck
open Go.RowKit Go.Lib Go.Shelf Go.Maps Go.Proofs.YtbklhcjcgiblkaaDoorW.PrintWords Go.Proofs.YtbklhcjcgiblkaaDoorW.PrintLast Go.Proofs.YtbklhcjcgiblkaaDoorW.PrintMore Go.Proofs.YtbklhcjcgiblkaaDoor.U Go.Proofs.YtbklhcjcgiblkaaDoor.P Go.Proofs.YtbklhcjcgiblkaaDoor.PTh Go.Proofs.YtbklhcjcgiblkaaDoor.MapV Go.Proofs.YtbklhcjcgiblkaaDoor.Rng
attribute [local go_sem] Oper.semAt_some
def PutsAt (K : CK) (k : Nat) : Prop := ∀ (deep : Nat), deep + k = 11 → ∀ (w : World) (s : PS) (vf vo : Value) (Ab : Option Addr) (cb : Nat) (b : Txt), PSt K w s vf vo → (Kd.int .u8).C w Ab b.length (ints b) → b.length ≤ 100000 →
  Calls Tryd.prog 45 #[at0 K.w0.heap.size, vo, .slice Ab b.length cb, .int .i64 (deep : Int)] w (Puts K (putsE K.v.fs k s b) w vf vo)
set_option maxRecDepth 100000 in
set_option maxHeartbeats 8000000 in
theorem boxes (w : World) (o1 o2 o3 : Obj) : Below w.heap.size w (((w.alloc o1).alloc o2).alloc o3) ∧ (((w.alloc o1).alloc o2).alloc o3).heap.size = w.heap.size + 3 ∧ (((w.alloc o1).alloc o2).alloc o3).heap[w.heap.size]? = some o1 ∧ (((w.alloc o1).alloc o2).alloc o3).heap[w.heap.size + 1]? = some o2 ∧ (((w.alloc o1).alloc o2).alloc o3).heap[w.heap.size + 2]? = some o3 := by
  refine ⟨(((Below.refl _ _).alloc (Nat.le_refl _) _).alloc (by simp) _).alloc (by simp; omega) _, by simp, ?_, ?_, ?_⟩
  · exact (Below.heap_alloc _ _ _ (by simp; omega)).trans ((Below.heap_alloc _ _ _ (by simp)).trans (heap_alloc_new w _))
  · have := heap_alloc_new (w.alloc o1) o2
    rw [World.size_alloc] at this
    exact (Below.heap_alloc _ _ _ (by simp)).trans this
  · have := heap_alloc_new ((w.alloc o1).alloc o2) o3
    rw [World.size_alloc, World.size_alloc] at this
    exact this
set_option maxRecDepth 100000 in
set_option maxHeartbeats 16000000 in
theorem puts_any (K : CK) (hK : K.Ok) : ∀ k, PutsAt K k := by
  intro k
  induction k with
  | zero =>
    intro deep hdk w s vf vo Ab cb b hS hC hbl
    obtain rfl : deep = 11 := by omega
    obtain ⟨Ao, co, rfl, _, _⟩ := own_reads hS.o
    have hb1 := (boxes w (.cells #[at0 K.w0.heap.size] 50) (.cells #[.slice Ao s.out.length co] 24) (.cells #[.int .i64 11] 3)).1
    have hM := Lib.hid (Mut.of_below (X := XP K vf (.slice Ao s.out.length co)) hb1)
    clear hb1
    generalize K.w0.heap.size = kb at *
    refine calls_of_wpAt Tryd.func45 rfl ?_
    simp only [Tryd.ntmps45, List.size_toArray, List.length_cons, List.length_nil, Nat.reduceAdd, Nat.reduceSub, Array.replicate_succ, Array.replicate_zero, List.push_toArray, List.append_toArray, List.nil_append, List.cons_append]
    refine wpAt_seq_k fun K0 hK0 => ?_
    go_wp2_with fail
    refine wpAt_seq_k fun K1 hK1 => ?_
    go_wp2_with fail
    refine (need_no _).mono ?_
    rintro e w2 ⟨rfl, rfl⟩
    exact ⟨hM.out, rfl⟩
  | succ k ih =>
    intro deep hdk w s vf vo Ab cb b hS hC hbl
    obtain ⟨Ao, co, rfl, _, _⟩ := own_reads hS.o
    have hIH := Lib.hid ih
    have hKH := Lib.hid hK
    obtain ⟨on, hon⟩ : ∃ n, s.out.length = n := ⟨_, rfl⟩
    have hONH := Lib.hid hon
    obtain ⟨kb, hkb⟩ : ∃ n, K.w0.heap.size = n := ⟨_, rfl⟩
    have hKB := Lib.hid hkb
    obtain ⟨q, hq⟩ : ∃ n, w.heap.size = n := ⟨_, rfl⟩
    have hQ := Lib.hid hq
    rw [hon] at hS
    rw [hkb, hon]
    obtain ⟨hb1, hz1, x1, x2, x3⟩ := boxes w (.cells #[at0 kb] 50) (.cells #[.slice Ao on co] 24) (.cells #[.int .i64 (deep : Int)] 3)
    have hS1 := Lib.hid (hS.below hb1)
    have hM1 := Lib.hid (Mut.of_below (X := XP K vf (.slice Ao on co)) hb1)
    have hcv := Kd.C_string (P := Tryd.prog) (src := 24) (dst := 9) (e := 5) (c := cb) Tryd.underlying24 Tryd.underlying5 Tryd.underlying9 (Kd.C_below hC hb1)
    rw [str_ints] at hcv
    rw [hq] at hz1 x1 x2 x3
    have hX1 := Lib.hid x1
    have hX2 := Lib.hid x2
    have hX3 := Lib.hid x3
    have d7 := (cell_of_heap (j := 0) x3).trans rfl
    have hSH := Lib.hid hS
    have hd10 : decide ((deep : Int) ≤ 10) = true := by rw [decide_eq_true_iff]; omega
    have hZ1 := Lib.hid hz1
    clear ih hK hS hC x1 x2 x3 hb1 hon hkb hz1
    refine calls_of_wpAt Tryd.func45 rfl ?_
    simp only [Tryd.ntmps45, List.size_toArray, List.length_cons, List.length_nil, Nat.reduceAdd, Nat.reduceSub, Array.replicate_succ, Array.replicate_zero, List.push_toArray, List.append_toArray, List.nil_append, List.cons_append]
    refine wpAt_seq_k fun K0 hK0 => ?_
    go_wp2_with fail
    clear hq
    generalize (((w.alloc (.cells #[at0 kb] 50)).alloc (.cells #[.slice Ao on co] 24)).alloc (.cells #[.int .i64 (deep : Int)] 3)) = W1 at *
    have d7b : W1.cell? ⟨q + 1 + 1, 0, none⟩ = some (.int .i64 (deep : Int)) := d7
    clear d7
    refine wpAt_seq_k fun K1 hK1 => ?_
    go_wp2_with fail
    refine (need_yes _).mono ?_
    rintro e w2 ⟨rfl, rfl⟩
    go_wp2_with fail
    refine wpAt_seq ?_
    refine wpAt_seq_k fun K2 hK2 => ?_
    go_wp2_with fail
    refine (splitAfter_any (B b) W1).mono ?_
    rintro e W2 ⟨rfl, hw2⟩
    obtain ⟨hb2, hz2, y1, y2, y3⟩ := boxes W1 (.cells #[.string (B b)] 9) (.cells #[.string ⟨#[10]⟩] 9) (.cells #[.int .i64 1] 3)
    rw [hw2] at hb2 hz2 y1 y2 y3
    have hBA := Lib.hid (Base.mk' (N := W2.heap.size) hSH.out (by rw [hQ.out, hz2, hZ1.out]; omega))
    have hNN : Hid (W2.heap.size = q + 6) := by show _ = _; rw [hz2, hZ1.out]
    have hIN : Hid (PInv K w W2.heap.size q deep vf (.slice Ao on co) W2 s vf (.slice Ao on co)) :=
      ⟨hS1.out.below hb2, by rw [hKB.out]; exact (hb2.block _ (by rw [hZ1.out]; omega)).trans hX1.out, (hb2.block _ (by rw [hZ1.out]; omega)).trans hX2.out, (hb2.block _ (by rw [hZ1.out]; omega)).trans hX3.out, hM1.out.trans (Mut.of_below (X := fun _ => False) hb2) (fun _ _ h => h.elim), Fresh.refl _ _, Fresh.refl _ _⟩
    have hY1 := Lib.hid y1
    have hY2 := Lib.hid y2
    have hY3 := Lib.hid y3
    have hZ2 := Lib.hid hz2
    clear hw2 hb2 hz2 y1 y2 y3 hS1 hX1 hX2 hX3 hM1 d7b
    go_wp2_with fail
    refine wpAt_block ?_
    refine wpAt_range_strP (fn := Tryd.f45) Tryd.func45 (gf := 85) (lb := #[.pointer (some ⟨W1.heap.size + 1, 0, none⟩), .pointer (some ⟨W1.heap.size, 0, none⟩), .pointer (some ⟨W1.heap.size + 2, 0, none⟩)]) rfl (enters_of Tryd.func85 (by kernel_rfl) rfl)
      (split_seqP 10 1 (by omega) W1.heap.size b (by omega) W2 ?hlt ?i0 ?i1 ?i2) (Below.refl _ _) ?hbw
      (fun pre W => ∃ (ls : List Txt) (s' : PS) (vf' vo' : Value), pre = ls.map B ∧ ls <+: splitK 10 1 b ∧ linesP K.v.fs (putsE K.v.fs k) ls s = some s' ∧ PInv K w W2.heap.size q deep vf (.slice Ao on co) W s' vf' vo' ∧ W2.heap.size ≤ W.heap.size)
      (fun c pre W => False)
      (fun ch W => ch = flV ∧ linesP K.v.fs (putsE K.v.fs k) (splitK 10 1 b) s = none ∧ Mut (XP K vf (.slice Ao on co)) w W)
      ?hI ?hIx ?hIs ?h0 ?a1 ?assign ?body ?done ?stop ?pan
    case i0 => exact hY1.out
    case i1 => exact hY2.out
    case i2 => exact hY3.out
    case hlt => rw [hZ2.out]; omega
    case hbw => rw [hZ2.out]; omega
    case hI =>
      rintro pre W W' row ⟨ls, s', vf', vo', h1, h2, h3, h4, h5⟩ hg hr
      exact ⟨ls, s', vf', vo', h1, h2, h3, h4.own hBA.out hg hr, Nat.le_trans h5 hg.size⟩
    case hIx => exact fun c s A B row h => h.elim
    case hIs =>
      rintro pre W u ⟨ls, s', vf', vo', h1, h2, h3, h4, h5⟩
      exact ⟨ls, s', vf', vo', h1, h2, h3, h4.other hBA.out hQ.out.symm _ (by rw [hZ1.out, hQ.out]; exact Nat.le_refl _) (by rw [hZ2.out]; omega) 0 u, by simpa using h5⟩
    case h0 => exact ⟨[], s, _, _, rfl, List.nil_prefix, rfl, hIN.out, Nat.le_refl _⟩
    case assign =>
      intro l' x W K0 hK0
      simp only [List.zip_toArray, List.zip_cons_cons, List.zip_nil_right, List.foldl_toArray, List.foldl_cons, List.foldl_nil, List.setIfInBounds_toArray, List.set_cons_succ, List.set_cons_zero]
      gi_wp2
      exact hK0
    case stop => exact fun D c pre W _ _ h _ => h.elim
    case pan =>
      rintro D ch W hD ⟨rfl, hno, hM⟩ hdf
      refine ⟨by simp, .inl ⟨_, _, rfl, run_takeDeferred hdf, ?_⟩⟩
      show Puts K (linesP K.v.fs (putsE K.v.fs k) (splitK 10 1 b) s) w vf _ fl _
      rw [hno]
      refine ⟨hM.grown (grownBy_putObj' _ D (.deferred none)) (fun r e hr => ?_), rfl⟩
      injection e with e
      have := hNN.out; have := hQ.out; omega
    case done =>
      rintro D W hD ⟨ls, s', vf', vo', hpl, hpre, hlin, hinv, hsz⟩ hdf
      obtain rfl : ls = splitK 10 1 b := ((List.map_inj_right (fun _ _ e => B_inj e)).1 hpl).symm
      have e5 := (cell_of_heap (j := 0) hinv.ho).trans rfl
      have hI := Lib.hid hinv
      have hDF := Lib.hid hdf
      have hL := Lib.hid hlin
      have hDn : Hid (W2.heap.size ≤ D) := hD
      obtain ⟨Av, cv, rfl, _, _⟩ := own_reads hinv.st.o
      obtain ⟨lv, hlv⟩ : ∃ n, s'.out.length = n := ⟨_, rfl⟩
      rw [hlv] at e5
      have hLV := Lib.hid hlv
      clear hinv hdf hlin hpre hpl hD hlv
      show wpAt _ _ _ _ _ _
      refine wpAt_seq_k fun K3 hK3 => ?_
      go_wp2_with fail
      refine wpAt_of_wp ?_
      go_wp2_with fail
      refine ⟨by simp, .inl ⟨_, _, rfl, run_takeDeferred hDF.out, ?_⟩⟩
      have hg := grownBy_putObj' W D (.deferred none)
      refine ⟨.slice Av lv cv, by simp [results, Tryd.f45, go_sem], ?_⟩
      show Puts K (linesP K.v.fs (putsE K.v.fs k) (splitK 10 1 b) s) w vf _ _ _
      rw [hL.out]
      have hP := hI.out.own hBA.out hg (fun r e => by injection e with e; subst e; exact ⟨hDn.out, _, hDF.out, rfl⟩)
      refine ⟨hP.mu, vf', _, rfl, by rw [← hLV.out]; exact hP.st, hP.ff.mono (by have := hNN.out; have := hQ.out; omega), ?_⟩
      have := hP.fo
      rw [hLV.out] at this
      exact this.mono (by have := hNN.out; have := hQ.out; omega)
    case body =>
      rintro l pre x W ⟨ls, s', vf', vo', rfl, hls, hlin, hinv, hsz⟩ hpx
      obtain ⟨p, rfl, hpp⟩ := map_snoc_prefix hpx
      obtain ⟨Av, cv, rfl, _, _⟩ := own_reads hinv.st.o
      have hpl : p.length ≤ 100000 := by
        have := splitK_mem 10 1 (by omega) b p (hpp.subset (by simp)); omega
      have hpl2 : (trimNL p).length ≤ p.length := by unfold trimNL; split <;> simp
      have hI := Lib.hid hinv
      have hLin := Lib.hid hlin
      have hPP := Lib.hid hpp
      have hSZ : Hid (W2.heap.size ≤ W.heap.size) := hsz
      have e4 := (cell_of_heap (j := 0) hinv.hc).trans rfl
      have e5 := (cell_of_heap (j := 0) hinv.ho).trans rfl
      have e7 : W.cell? ⟨q + 1 + 1, 0, none⟩ = some (.int .i64 (deep : Int)) := (cell_of_heap (j := 0) hinv.hd).trans rfl
      rw [hKB.out] at e4
      have hrow : W.ownsRow (kb + 1) 5 1 (.slice Av s'.out.length cv) s'.out.length (bcells s'.out) := by rw [← hKB.out]; exact hinv.st.o
      have hrowH := Lib.hid hrow
      have hol := hinv.st.lo
      have hkbW : kb + 1 ≤ W.heap.size := by
        have h1 := hBA.out.kb; have h2 := hBA.out.n; have h3 := hKB.out; have h4 := hSZ.out; omega
      clear hrow hinv hlin hpp hpx hls hsz
      gi_wp2_with fail
      refine ⟨trivial, CallsIn.inRound l (callsIn_wide.2 ((trimN_any p _ (by omega)).mono ?_))⟩
      rintro e W' ⟨rfl, rfl⟩
      gi_wp2_with fail
      refine ⟨trivial, CallsIn.inRound l (callsIn_wide.2 ((cutp_any (trimNL p) _ (by omega)).mono ?_))⟩
      rintro e W' ⟨rfl, rfl⟩
      cases hinc : kInclude.isPrefixOf (trimNL p) with
      | false =>
        have hinl : Hid (inclL p = none) := by show _ = _; rw [inclL, hinc]; rfl
        have hST : Hid (linesP K.v.fs (putsE K.v.fs k) [p] s' = if (s'.out ++ p).length ≤ 65536 then some { s' with out := s'.out ++ p } else none) := by
          show _ = _
          rw [linesP, hinl.out]; rfl
        have hBW := hKB.out
        by_cases hl3 : (s'.out ++ p).length ≤ 65536
        · have hd : decide (((s'.out ++ p).length : Int) ≤ 65536) = true := by rw [decide_eq_true_iff]; omega
          have hST2 : Hid (linesP K.v.fs (putsE K.v.fs k) [p] s' = some { s' with out := s'.out ++ p }) := by show _ = _; rw [hST.out, if_pos hl3]
          clear hBW
          gi_wp2_with (gi_at_builtin; go_must (refine append_text (kb + 1) rfl _ _ rfl _ s'.out p rfl rfl hrowH.out (by omega) hkbW ?_; intro v3 W3 hown3 hg3 hf3; obtain ⟨A3, c3, rfl, _, _⟩ := own_reads hown3; have hM3 := Lib.hid (Mut.out hI.out.st hg3); have hx3 := hI.out.box hM3.out; have e53 := (cell_of_heap (j := 0) hx3).trans rfl; have f53 := frozen_of_heap hx3 0; rw [← hKB.out] at hown3; have hS3 := Lib.hid (hI.out.st.outs hown3 hg3 hl3); have hP3 := Lib.hid (hI.out.step hBA.out hQ.out.symm hS3.out hM3.out (Fresh.refl _ _) hf3 hSZ.out); have hk1 := Lib.hid (hI.out.keeps hM3.out (.slice A3 (s'.out ++ p).length c3)); have hk2 := Lib.hid (hI.out.kept3 hBA.out hQ.out.symm hM3.out hSZ.out W1.heap.size (by have := hZ1.out; have := hQ.out; omega) (by have := hZ2.out; omega) (.slice A3 (s'.out ++ p).length c3)); clear hown3 hg3 hf3 hx3; generalize s'.out ++ p = ob at *))
          refine ⟨trivial, CallsIn.inRound l (callsIn_wide.2 ((need_yes _).mono ?_))⟩
          rintro e W4 ⟨rfl, rfl⟩
          gi_wp2_with fail
          exact ⟨hk1.out, hk2.out, ls ++ [p], _, vf', _, by simp, hPP.out, linesP_some hLin.out hST2.out, hP3.out, by simpa using Nat.le_trans hSZ.out hM3.out.size⟩
        · have hd : decide (((s'.out ++ p).length : Int) ≤ 65536) = false := by rw [decide_eq_false_iff_not]; omega
          have hST2 : Hid (linesP K.v.fs (putsE K.v.fs k) [p] s' = none) := by show _ = _; rw [hST.out, if_neg hl3]
          clear hBW
          gi_wp2_with (gi_at_builtin; go_must (refine append_text (kb + 1) rfl _ _ rfl _ s'.out p rfl rfl hrowH.out (by omega) hkbW ?_; intro v3 W3 hown3 hg3 hf3; obtain ⟨A3, c3, rfl, _, _⟩ := own_reads hown3; have hM3 := Lib.hid (Mut.out hI.out.st hg3); have hx3 := hI.out.box hM3.out; have e53 := (cell_of_heap (j := 0) hx3).trans rfl; have f53 := frozen_of_heap hx3 0; have hk1 := Lib.hid (hI.out.keeps hM3.out (.slice A3 (s'.out ++ p).length c3)); clear hown3 hg3 hf3 hx3; generalize s'.out ++ p = ob at *))
          refine ⟨trivial, CallsIn.inRound l (callsIn_wide.2 ((need_no _).mono ?_))⟩
          rintro e W4 ⟨rfl, rfl⟩
          exact ⟨rfl, hk1.out, rfl, linesP_none hLin.out hST2.out hPP.out, (hI.out.mut hBA.out hM3.out).set _ _ (fun hh => absurd hh (by show ¬ q + 1 < _; have := hQ.out; omega))⟩
      | true =>
        have hinl : Hid (inclL p = some ((trimNL p).drop 9)) := by show _ = _; rw [inclL, hinc]; rfl
        obtain ⟨nm, hnm⟩ : ∃ x, (trimNL p).drop 9 = x := ⟨_, rfl⟩
        rw [hnm] at hinl
        have hnl : nm.length ≤ 100000 := by rw [← hnm, List.length_drop]; omega
        have hST : Hid (linesP K.v.fs (putsE K.v.fs k) [p] s' = match findL K.v.fs nm with
            | none => none
            | some own => if rightL nm = true ∧ s'.many + 1 ≤ 1000 then putsE K.v.fs k ⟨s'.out, addF s'.found nm, s'.many + 1⟩ own else none) := by
          show _ = _
          rw [linesP, hinl.out]
          simp only
          cases findL K.v.fs nm with
          | none => rfl
          | some own =>
            simp only
            split
            · cases putsE K.v.fs k ⟨s'.out, addF s'.found nm, s'.many + 1⟩ own with
              | none => rfl
              | some s9 => rfl
            · rfl
        have hNM := Lib.hid hnm
        have k2 := (cell_of_heap (j := 2) hI.out.st.at_.h).trans rfl
        have k3 := (cell_of_heap (j := 3) hI.out.st.at_.h).trans rfl
        have k4 := (cell_of_heap (j := 4) hI.out.st.at_.h).trans rfl
        rw [hKB.out] at k2 k3 k4
        obtain ⟨nf, hnf⟩ : ∃ n, K.v.fs.length = n := ⟨_, rfl⟩
        have hF := Find_any K.Af K.cf K.v.fs nm W' (Kd.C_below hKH.out.rf hI.out.st.at_.b) (by have := hKH.out.nf; omega) (fun f hf => by have := hKH.out.lf f hf; omega)
        rw [hnf] at hF k2
        have hFH := Lib.hid hF
        clear hF
        gi_wp2_with fail
        refine ⟨trivial, CallsIn.inRound l (callsIn_wide.2 (hFH.out.mono ?_))⟩
        rintro e W3 ⟨hb3, hP3⟩
        have hM3 : Hid (Mut (XP K vf' (.slice Av s'.out.length cv)) W' W3) := Mut.of_below hb3
        have hS3 := Lib.hid (hI.out.st.below hb3)
        have hBx3 := Lib.hid (hI.out.box hM3.out)
        have hCx3 := Lib.hid (hI.out.boxc hM3.out)
        have hDx3 := Lib.hid (hI.out.boxd hM3.out)
        have hmid := Lib.hid (Mid.of hS3.out)
        rw [hKB.out] at hmid hCx3
        have x4 := (cell_of_heap (j := 0) hCx3.out).trans rfl
        have y4 := (cell_of_heap (j := 4) hS3.out.at_.h).trans rfl
        have z4 := frozen_of_heap hS3.out.at_.h 4
        rw [hKB.out] at y4 z4
        have hz3 : W'.heap.size ≤ W3.heap.size := hb3.size
        have hMs : Hid (Mut (XP K vf' (.slice Av s'.out.length cv)) W3 (W3.setCell ⟨kb, 4, none⟩ (.int .i64 ((s'.many : Int) + 1)))) := (Mut.refl _ _).set _ _ (fun _ => .inl hKB.out.symm)
        have hmw : IntKind.i64.wrap ((s'.many : Int) + 1) = (s'.many : Int) + 1 := by have := hI.out.st.lm; rw [IntKind.wrap_i64]; omega
        clear hb3 e4 e5 e7 k2 k3 k4
        cases hfd : findL K.v.fs nm with
        | none =>
          rw [hfd] at hP3
          obtain rfl : e = _ := hP3
          have hST2 : Hid (linesP K.v.fs (putsE K.v.fs k) [p] s' = none) := by show _ = _; rw [hST.out, hfd]
          gi_wp2_with fail
          refine ⟨trivial, ?_⟩
          gi_wp2_with fail
          refine ⟨trivial, CallsIn.inRound l (callsIn_wide.2 ((need_no _).mono ?_))⟩
          rintro e W4 ⟨rfl, rfl⟩
          have hMf := hM3.out.trans hMs.out (fun _ _ h => h)
          exact ⟨rfl, hMf.keeps (fun k hk => XP.cells hI.out.st hk), rfl, linesP_none hLin.out hST2.out hPP.out, hI.out.mut hBA.out hMf⟩
        | some own =>
          rw [hfd] at hP3
          obtain ⟨vown, rfl, hown⟩ := hP3
          have hOwn := Lib.hid hown
          have hol2 : own.length ≤ 100000 := by
            rw [findL, Option.map_eq_some_iff] at hfd
            obtain ⟨f, hf, rfl⟩ := hfd
            exact hKH.out.lf f (List.mem_of_find?_eq_some hf)
          have hST1 : Hid (linesP K.v.fs (putsE K.v.fs k) [p] s' = if rightL nm = true ∧ s'.many + 1 ≤ 1000 then putsE K.v.fs k ⟨s'.out, addF s'.found nm, s'.many + 1⟩ own else none) := by show _ = _; rw [hST.out, hfd]
          clear hown hfd
          gi_wp2_with fail
          generalize hW5 : W3.setCell ⟨kb, 4, none⟩ (.int .i64 ((s'.many : Int) + 1)) = W5 at *
          have hz5 : W5.heap.size = W3.heap.size := by rw [← hW5]; simp
          clear hW5
          refine ⟨trivial, CallsIn.inRound l (callsIn_wide.2 ((right_any nm _).mono ?_))⟩
          rintro e W6 ⟨rfl, hb6⟩
          have hmid6 := Lib.hid (hmid.out.below hb6)
          have hM6 := Lib.hid (hMs.out.trans (Mut.of_below (X := fun _ => False) hb6) (fun _ _ h => h.elim))
          have hMf := Lib.hid (hM3.out.trans hM6.out (fun _ _ h => h))
          have hBx6 := Lib.hid (hI.out.box hMf.out)
          have hCx6 := Lib.hid (hI.out.boxc hMf.out)
          have hDx6 := Lib.hid (hI.out.boxd hMf.out)
          rw [hKB.out] at hCx6
          have x6 := (cell_of_heap (j := 0) hCx6.out).trans rfl
          have y6 := (cell_of_heap (j := 4) hmid6.out.h).trans rfl
          rw [hKB.out] at y6
          clear hb6 x4 y4 z4
          cases hr : rightL nm with
          | false =>
            have hST2 : Hid (linesP K.v.fs (putsE K.v.fs k) [p] s' = none) := by show _ = _; rw [hST1.out, hr]; rfl
            gi_wp2_with fail
            refine ⟨trivial, CallsIn.inRound l (callsIn_wide.2 ((need_no _).mono ?_))⟩
            rintro e W7 ⟨rfl, rfl⟩
            exact ⟨rfl, hMf.out.keeps (fun k hk => XP.cells hI.out.st hk), rfl, linesP_none hLin.out hST2.out hPP.out, hI.out.mut hBA.out hMf.out⟩
          | true =>
            by_cases hm : s'.many + 1 ≤ 1000
            · have hdm : decide ((s'.many : Int) + 1 ≤ 1000) = true := by rw [decide_eq_true_iff]; omega
              have hST2 : Hid (linesP K.v.fs (putsE K.v.fs k) [p] s' = putsE K.v.fs k ⟨s'.out, addF s'.found nm, s'.many + 1⟩ own) := by show _ = _; rw [hST1.out, if_pos ⟨hr, hm⟩]
              obtain ⟨Aw, cw, rfl, hlw, hCw⟩ := row_reads hmid6.out.f
              have hCt := contains_any Aw cw s'.found nm W6 hCw (by have := hI.out.st.lf; have := hI.out.st.lm; omega)
              have y3 := (cell_of_heap (j := 3) hmid6.out.h).trans rfl
              rw [hKB.out] at y3
              have hCtH := Lib.hid hCt
              have hAF : Hid (addF s'.found nm = if s'.found.contains nm = true then s'.found else s'.found ++ [nm]) := by
                show _ = _
                unfold addF
                by_cases hh : nm ∈ s'.found
                · rw [if_pos hh, if_pos (List.contains_iff_mem.2 hh)]
                · rw [if_neg hh, if_neg (fun h => hh (List.contains_iff_mem.1 h))]
              clear hCt hCw hlw
              gi_wp2_with fail
              refine ⟨trivial, CallsIn.inRound l (callsIn_wide.2 ((need_yes _).mono ?_))⟩
              rintro e W7 ⟨rfl, rfl⟩
              gi_wp2_with fail
              refine ⟨trivial, CallsIn.inRound l (callsIn_wide.2 (hCtH.out.mono ?_))⟩
              rintro e W7 ⟨rfl, rfl⟩
              have x5 := (cell_of_heap (j := 0) hBx6.out).trans rfl
              have x7 : W7.cell? ⟨q + 1 + 1, 0, none⟩ = some (.int .i64 (deep : Int)) := (cell_of_heap (j := 0) hDx6.out).trans rfl
              have hdw : IntKind.i64.wrap ((deep : Int) + 1) = (deep : Int) + 1 := by rw [IntKind.wrap_i64]; omega
              obtain ⟨Ab2, cb2, rfl, hlb2, _⟩ := own_reads hOwn.out
              cases hx : s'.found.contains nm with
              | true =>
                have hS7 : Hid (PSt K W7 ⟨s'.out, s'.found, s'.many + 1⟩ (.slice Aw s'.found.length cw) (.slice Av s'.out.length cv)) := hmid6.out.pst hI.out.st hm
                have hAF2 : Hid (addF s'.found nm = s'.found) := by show _ = _; rw [hAF.out, hx]; rfl
                gi_wp2_with fail
                refine ⟨trivial, CallsIn.inRound l (callsIn_wide.2 ?_)⟩
                have hOwn7 := own_move hOwn.out (w1 := W7) (fun i hi => hM6.out.same i (own_lt hOwn.out i hi) (fun hx => by
                  obtain ⟨cs, t, e⟩ := XP.cells hI.out.st hx
                  have h1 := (Array.getElem?_eq_some_iff.1 e).1
                  have h2 := own_base hOwn.out i hi
                  omega))
                obtain ⟨Ab3, cb3, he3, _, hC3⟩ := own_reads hOwn7
                injection he3 with he3 _ _
                subst he3
                have hCall := hIH.out (deep + 1) (by omega) W7 ⟨s'.out, s'.found, s'.many + 1⟩ (.slice Aw s'.found.length cw) (.slice Av s'.out.length cv) Ab2 cb2 own hS7.out hC3 hol2
                rw [hKB.out] at hCall
                refine Calls.mono hCall ?_
                rintro e W8 ⟨hM8, hP8⟩
                have hM78 := Lib.hid hM8
                have hMf8 : Hid (Mut (XP K (.slice Aw s'.found.length cw) (.slice Av s'.out.length cv)) W' W8) := hMf.out.trans hM8 (fun _ _ h => h)
                have hST3 : Hid (linesP K.v.fs (putsE K.v.fs k) [p] s' = putsE K.v.fs k ⟨s'.out, s'.found, s'.many + 1⟩ own) := by show _ = _; rw [hST2.out, hAF2.out]
                cases hpe : putsE K.v.fs k ⟨s'.out, s'.found, s'.many + 1⟩ own with
                | none =>
                  rw [hpe] at hP8
                  obtain rfl : e = fl := hP8
                  exact ⟨rfl, hMf8.out.keeps (fun k hk => XP.cells hI.out.st hk), rfl, linesP_none hLin.out (hST3.out.trans hpe) hPP.out, hI.out.mut hBA.out hMf8.out⟩
                | some s9 =>
                  rw [hpe] at hP8
                  obtain ⟨vf9, vo9, rfl, hS9, hf9, ho9⟩ := hP8
                  obtain ⟨A9, c9, rfl, _, _⟩ := own_reads hS9.o
                  have hx9 := hI.out.box hMf8.out
                  have e9 := (cell_of_heap (j := 0) hx9).trans rfl
                  have f9 := frozen_of_heap hx9 0
                  have hz7 : W'.heap.size ≤ W7.heap.size := hMf.out.size
                  have hP9 := Lib.hid (hI.out.step hBA.out hQ.out.symm hS9 hMf8.out (Fresh.trans (Fresh.refl W'.heap.size _) hf9 hz7) (Fresh.trans (Fresh.refl W'.heap.size _) ho9 hz7) hSZ.out)
                  have hk1 := Lib.hid (hI.out.keeps hMf8.out (.slice A9 s9.out.length c9))
                  have hk2 := Lib.hid (hI.out.kept3 hBA.out hQ.out.symm hMf8.out hSZ.out W1.heap.size (by have := hZ1.out; have := hQ.out; omega) (by have := hZ2.out; omega) (.slice A9 s9.out.length c9))
                  have hsz8 : Hid (W2.heap.size ≤ (W8.setCell ⟨q + 1, 0, none⟩ (.slice A9 s9.out.length c9)).heap.size) := by show _ ≤ _; simpa using Nat.le_trans hSZ.out hMf8.out.size
                  have hL9 := Lib.hid (linesP_some hLin.out (hST3.out.trans hpe))
                  clear hS9 hf9 ho9 hx9 hpe
                  gi_wp2_with fail
                  exact ⟨hk1.out, hk2.out, ls ++ [p], s9, vf9, _, by simp, hPP.out, hL9.out, hP9.out, hsz8.out⟩
              | false =>
                have hAF2 : Hid (addF s'.found nm = s'.found ++ [nm]) := by show _ = _; rw [hAF.out, hx]; rfl
                have hbd : Below W7.heap.size W7 W7.drew := (Below.refl _ _).drew
                have hmidd := Lib.hid (hmid6.out.below hbd)
                have hM6d := Lib.hid (hM6.out.trans (Mut.of_below (X := fun _ => False) hbd) (fun _ _ h => h.elim))
                have hMfd := Lib.hid (hMf.out.trans (Mut.of_below (X := fun _ => False) hbd) (fun _ _ h => h.elim))
                have hSd : Hid (W7.drew.cell? ⟨q, 0, none⟩ = some (at0 kb) ∧ W7.drew.cell? ⟨kb, 3, none⟩ = some (.slice Aw s'.found.length cw)) := ⟨x6, y3⟩
                have hlf := hI.out.st.lf
                have hlm := hI.out.st.lm
                have hbase : K.w0.heap.size + 1 ≤ W7.drew.heap.size := (Array.getElem?_eq_some_iff.1 hmidd.out.h).1
                have hnm1 : nm.length ≤ 1000 := by have := right_len hr; omega
                clear hbd x6 y6 y3 x5 x7
                gi_wp2_with fail
                refine RegP.regionR (fun w' => w'.cell? ⟨q, 0, none⟩ = some (at0 kb) ∧ w'.cell? ⟨kb, 3, none⟩ = some (.slice Aw s'.found.length cw)) 10 [(1, 0), (1, 1), (0, 2), (0, 3), (1, 4), (0, 5), (2, 6), (2, 7), (0, 8), (0, 9), (3, 10)] (by kernel_rfl) (by kernel_rfl) (by kernel_rfl) (by rfl) (by kernel_rfl) (by rintro ⟨_, _, h⟩; exact h) (by exact hSd.out) ?_
                generalize W7.drew = wd at *
                refine RegP.held1 (by (simp only [gA,gB,gC]); rfl) (by exact fun _ _ _ h => h) (by rfl) (by intro w' hS_; (try dsimp only at hS_); go_split_ands; go_simp; try with_reducible rfl) ?_
                try simp only [Act.put, pA,pB,pC]
                refine RegP.held1 (by (simp only [gA,gB,gC]); rfl) (by exact fun _ _ _ h => h) (by rfl) (by intro w' hS_; (try dsimp only at hS_); go_split_ands; go_simp; try with_reducible rfl) ?_
                try simp only [Act.put, pA,pB,pC]
                refine RegP.pure1 (by (simp only [gA,gB,gC]); rfl) (by exact fun _ _ _ h => h) (by rfl) (by intro w'; go_simp; try with_reducible rfl) ?_
                try simp only [Act.put, pA,pB,pC]
                refine RegP.pure1 (by (simp only [gA,gB,gC]); rfl) (by exact fun _ _ _ h => h) (by rfl) (by intro w'; go_simp; try with_reducible rfl) ?_
                try simp only [Act.put, pA,pB,pC]
                refine RegP.held1 (by (simp only [gA,gB,gC]); rfl) (by exact fun _ _ _ h => h) (by rfl) (by intro w' hS_; (try dsimp only at hS_); go_split_ands; go_simp; try with_reducible rfl) ?_
                try simp only [Act.put, pA,pB,pC]
                refine RegP.pure1 (by (simp only [gA,gB,gC]); rfl) (by exact fun _ _ _ h => h) (by rfl) (by intro w'; go_simp; try with_reducible rfl) ?_
                try simp only [Act.put, pA,pB,pC]
                refine RegP.ev1 (by (simp only [gA,gB,gC]); rfl) (fun K hK => ?_)
                go_simp
                refine hK.out _ _ ?_ (fun hHeld => ?_)
                · (try dsimp only); exact ⟨below_cell ((Below.refl wd.heap.size wd).alloc (Nat.le_refl _) _) hSd.out.1, below_cell ((Below.refl wd.heap.size wd).alloc (Nat.le_refl _) _) hSd.out.2⟩
                clear hK K
                try simp only [Act.put, pA,pB,pC]
                refine RegP.ev1 (by (simp only [gA,gB,gC]); rfl) (fun K hK => ?_)
                refine step_append_cells (w0 := wd) (W := wd) _ rfl _ _ 32 9 (.string ⟨#[]⟩) 1 16 rfl Tryd.underlying32 infoStr rfl (by decide) (by decide) (.slice Aw s'.found.length cw) s'.found.length (strs s'.found) [.string (B nm)] rfl rfl rfl (by intro u hu; rw [List.mem_singleton.1 hu]; rfl) hmidd.out.f (Below.refl _ _) hbase (by omega) ?_
                intro v7 w8 ho7 hb7 hg7 ha7
                obtain ⟨hS9, hM9, hk8⟩ := hmidd.out.found hI.out.st hm hnm1 ho7 hg7
                have hS9H := Lib.hid hS9
                have hM9H := Lib.hid hM9
                have hFR : Hid (Fresh W'.heap.size (.slice Aw s'.found.length cw) v7) := (show Fresh wd.heap.size _ v7 from ha7).mono hMfd.out.size
                have hq8 : w8.heap[q]? = some (.cells #[at0 kb] 50 (0, 0)) := by have hh := hI.out.boxc hMfd.out; rw [hKB.out] at hh; exact (hg7.block q (Array.getElem?_eq_some_iff.1 hh).1 (fun e => by obtain ⟨cs, e1⟩ := own_typed hmidd.out.f q e.symm; exact absurd (typed_ne hh e1) (by decide))).trans hh
                rw [hKB.out] at hk8 hM9H hS9H
                obtain ⟨A7, c7, rfl⟩ : ∃ A c, v7 = .slice A (s'.found.length + 1) c := by rcases ho7.2 with ⟨_, h⟩ | ⟨g, cap, cur, e, _⟩; exact absurd h (by omega); exact ⟨_, _, e⟩
                have k3 := (cell_of_heap (j := 3) hk8).trans rfl
                have kf3 := frozen_of_heap hk8 3
                have hS8 : Hid (w8.cell? ⟨q, 0, none⟩ = some (at0 kb) ∧ w8.cell? ⟨kb, 3, none⟩ = some (.slice Aw s'.found.length cw)) := ⟨(cell_of_heap (j := 0) hq8).trans rfl, k3⟩
                clear hS9 hM9 hk8 hq8 ho7 hb7 hg7 ha7
                refine hK.out _ _ ?_ (fun hHeld => ?_)
                · (try dsimp only); exact hS8.out
                clear hK K
                try simp only [Act.put, pA,pB,pC]
                refine RegP.pure1 (by (simp only [gA,gB,gC]); rfl) (by exact fun _ _ _ h => h) (by rfl) (by intro w'; go_simp; try with_reducible rfl) ?_
                try simp only [Act.put, pA,pB,pC]
                refine RegP.pure1 (by (simp only [gA,gB,gC]); rfl) (by exact fun _ _ _ h => h) (by rfl) (by intro w'; go_simp; try with_reducible rfl) ?_
                try simp only [Act.put, pA,pB,pC]
                refine RegP.last1 (by (simp only [gA,gB,gC]); rfl) (fun K hK => ?_)
                go_simp
                generalize w8.setCell ⟨kb, 3, none⟩ (.slice A7 (s'.found.length + 1) c7) = w9 at *
                have hMf9 := Lib.hid (hMfd.out.trans hM9H.out (fun _ _ h => h))
                have hM69 := Lib.hid (hM6d.out.trans hM9H.out (fun _ _ h => h))
                refine hK.out _ _ ?_
                clear hK K
                try simp only [Act.put, pA,pB,pC]
                refine RegP.done1 ?_
                try dsimp only
                have x5 := (cell_of_heap (j := 0) (hI.out.box hMf9.out)).trans rfl
                have x4 := (cell_of_heap (j := 0) (hI.out.boxc hMf9.out)).trans rfl
                have x7 : w9.cell? ⟨q + 1 + 1, 0, none⟩ = some (.int .i64 (deep : Int)) := (cell_of_heap (j := 0) (hI.out.boxd hMf9.out)).trans rfl
                rw [hKB.out] at x4
                gi_wp2_with fail
                refine ⟨trivial, CallsIn.inRound l (callsIn_wide.2 ?_)⟩
                have hOwn7 := own_move hOwn.out (w1 := w9) (fun i hi => hM69.out.same i (own_lt hOwn.out i hi) (fun hx => by
                  obtain ⟨cs, t, e⟩ := XP.cells hI.out.st hx
                  have h1 := (Array.getElem?_eq_some_iff.1 e).1
                  have h2 := own_base hOwn.out i hi
                  omega))
                obtain ⟨Ab3, cb3, he3, _, hC3⟩ := own_reads hOwn7
                injection he3 with he3 _ _
                subst he3
                have hCall := hIH.out (deep + 1) (by omega) w9 ⟨s'.out, (s'.found ++ [nm]), s'.many + 1⟩ (.slice A7 (s'.found.length + 1) c7) (.slice Av s'.out.length cv) Ab2 cb2 own hS9H.out hC3 hol2
                rw [hKB.out] at hCall
                refine Calls.mono hCall ?_
                rintro e W8 ⟨hM8, hP8⟩
                have hM78 := Lib.hid hM8
                have hMf8 : Hid (Mut (XP K (.slice Aw s'.found.length cw) (.slice Av s'.out.length cv)) W' W8) := hMf9.out.trans hM8 (fun i hi hx => by rcases hx with hx | hx | hx; exact .inl hx; (rcases hFR.out with e | ⟨b', e, hb'⟩; exact .inr (.inl (by rw [← e]; exact hx)); (rw [e] at hx; injection hx with hx; omega)); exact .inr (.inr hx))
                have hST3 : Hid (linesP K.v.fs (putsE K.v.fs k) [p] s' = putsE K.v.fs k ⟨s'.out, (s'.found ++ [nm]), s'.many + 1⟩ own) := by show _ = _; rw [hST2.out, hAF2.out]
                cases hpe : putsE K.v.fs k ⟨s'.out, (s'.found ++ [nm]), s'.many + 1⟩ own with
                | none =>
                  rw [hpe] at hP8
                  obtain rfl : e = fl := hP8
                  exact ⟨rfl, hMf8.out.keeps (fun k hk => XP.cells hI.out.st hk), rfl, linesP_none hLin.out (hST3.out.trans hpe) hPP.out, hI.out.mut hBA.out hMf8.out⟩
                | some s9 =>
                  rw [hpe] at hP8
                  obtain ⟨vf9, vo9, rfl, hS9, hf9, ho9⟩ := hP8
                  obtain ⟨A9, c9, rfl, _, _⟩ := own_reads hS9.o
                  have hx9 := hI.out.box hMf8.out
                  have e9 := (cell_of_heap (j := 0) hx9).trans rfl
                  have f9 := frozen_of_heap hx9 0
                  have hz7 : W'.heap.size ≤ w9.heap.size := hMf9.out.size
                  have hP9 := Lib.hid (hI.out.step hBA.out hQ.out.symm hS9 hMf8.out (Fresh.trans hFR.out hf9 hz7) (Fresh.trans (Fresh.refl W'.heap.size _) ho9 hz7) hSZ.out)
                  have hk1 := Lib.hid (hI.out.keeps hMf8.out (.slice A9 s9.out.length c9))
                  have hk2 := Lib.hid (hI.out.kept3 hBA.out hQ.out.symm hMf8.out hSZ.out W1.heap.size (by have := hZ1.out; have := hQ.out; omega) (by have := hZ2.out; omega) (.slice A9 s9.out.length c9))
                  have hsz8 : Hid (W2.heap.size ≤ (W8.setCell ⟨q + 1, 0, none⟩ (.slice A9 s9.out.length c9)).heap.size) := by show _ ≤ _; simpa using Nat.le_trans hSZ.out hMf8.out.size
                  have hL9 := Lib.hid (linesP_some hLin.out (hST3.out.trans hpe))
                  clear hS9 hf9 ho9 hx9 hpe
                  gi_wp2_with fail
                  exact ⟨hk1.out, hk2.out, ls ++ [p], s9, vf9, _, by simp, hPP.out, hL9.out, hP9.out, hsz8.out⟩
            · have hdm : decide ((s'.many : Int) + 1 ≤ 1000) = false := by rw [decide_eq_false_iff_not]; omega
              have hST2 : Hid (linesP K.v.fs (putsE K.v.fs k) [p] s' = none) := by show _ = _; rw [hST1.out, if_neg (fun h => hm h.2)]
              gi_wp2_with fail
              refine ⟨trivial, CallsIn.inRound l (callsIn_wide.2 ((need_no _).mono ?_))⟩
              rintro e W7 ⟨rfl, rfl⟩
              exact ⟨rfl, hMf.out.keeps (fun k hk => XP.cells hI.out.st hk), rfl, linesP_none hLin.out hST2.out hPP.out, hI.out.mut hBA.out hMf.out⟩
end Go.Proofs.YtbklhcjcgiblkaaDoor.Ck
end
section
set_option linter.unusedSimpArgs false
set_option linter.unusedVariables false
namespace Go.Proofs.YtbklhcjcgiblkaaDoor.Ck
open Go.RowKit Go.Lib Go.Shelf Go.Maps Go.Proofs.YtbklhcjcgiblkaaDoorW.PrintWords Go.Proofs.YtbklhcjcgiblkaaDoorW.PrintLast Go.Proofs.YtbklhcjcgiblkaaDoorW.PrintMore Go.Proofs.YtbklhcjcgiblkaaDoor.U Go.Proofs.YtbklhcjcgiblkaaDoor.P Go.Proofs.YtbklhcjcgiblkaaDoor.PTh Go.Proofs.YtbklhcjcgiblkaaDoor.MapV
def Verb (K : CK) (r : Option (Txt × List Txt)) (w : World) (e : Ending) (w' : World) : Prop := Below K.w0.heap.size w w' ∧ match r with
  | none => e = fl
  | some bf => ∃ A c vf m, e = .returned (.slice A bf.1.length c) ∧ bf.1.length ≤ c ∧ (Kd.int .u8).C w' A bf.1.length (ints bf.1) ∧ K.At w' vf m ∧ w'.ownsRow (K.w0.heap.size + 1) 9 1 vf bf.2.length (strs bf.2) ∧ bf.2.length ≤ 1000
theorem Verb.bad {K : CK} {r : Option (Txt × List Txt)} {w w' : World} (h : r = none) (hb : Below K.w0.heap.size w w') : Verb K r w fl w' := by subst h; exact ⟨hb, rfl⟩
theorem Verb.of {K : CK} {r : Option Txt} {w w' : World} {e : Ending} (h : Gives r w e w') (hA : K.At w (.slice none 0 0) 0) : Verb K (r.map fun b => (b, [])) w e w' := by
  obtain ⟨hb, h⟩ := h
  have hb' := hb.mono hA.b.size
  refine ⟨hb', ?_⟩
  cases r with
  | none => exact h
  | some b =>
    obtain ⟨A, c, rfl, hl, hC⟩ := h
    exact ⟨A, c, _, _, rfl, hl, hC, hA.below hb, World.ownsRow_nil _ _ _ _, by simp⟩
set_option maxRecDepth 100000 in
set_option maxHeartbeats 4000000 in
theorem inc_any (K : CK) (hK : K.Ok) (w : World) (hA : K.At w (.slice none 0 0) 0) :
    Calls Tryd.prog 31 #[at0 K.w0.heap.size] w (Verb K ((incE K.v K.args).map fun s => (s.out, s.found)) w) := by
  have hP := Lib.hid (one_any K hK w _ _ hA)
  have hE : Hid (incE K.v K.args = match oneE K.v K.args with
    | none => none
    | some b => putsE K.v.fs 11 ⟨[], [], 0⟩ b) := rfl
  have hL : Hid (∀ b, oneE K.v K.args = some b → b.length ≤ 100000) := by
    intro b hb
    unfold oneE at hb
    split at hb
    · exact arg_len hb hK.lf
    · cases hb
  have hKH := Lib.hid hK
  have hAH := Lib.hid hA
  generalize incE K.v K.args = RI at *
  generalize oneE K.v K.args = R at *
  obtain ⟨cb, hcb⟩ : ∃ n, K.w0.heap.size = n := ⟨_, rfl⟩
  have hCB := Lib.hid hcb
  rw [hcb] at hP ⊢
  clear hA hK hcb
  go_enter Tryd.func31, Tryd.ntmps31
  go_wp2_with fail
  refine hP.out.mono ?_
  rintro e w2 ⟨hb2, hPP⟩
  have hB2 := Lib.hid hb2
  cases R with
  | none =>
    obtain rfl : e = fl := hPP
    exact ⟨rfl, Verb.bad (by rw [hE.out]; rfl) (hb2.mono hAH.out.b.size)⟩
  | some b =>
    obtain ⟨v, rfl, ho2⟩ := hPP
    obtain ⟨Ab, c, rfl, hlc, hC⟩ := own_reads ho2
    have hS : PSt K w2 ⟨[], [], 0⟩ (.slice none 0 0) (.slice none 0 0) := ⟨hAH.out.below hb2, World.ownsRow_nil _ _ _ _, World.ownsRow_nil _ _ _ _, by simp, by simp, by simp, by simp⟩
    have hCall := puts_any K hKH.out 11 0 rfl w2 ⟨[], [], 0⟩ (.slice none 0 0) (.slice none 0 0) Ab c b hS hC (hL.out b rfl)
    rw [hCB.out] at hCall
    have hCH := Lib.hid hCall
    have hXB : Hid (∀ i, XP K (.slice none 0 0) (.slice none 0 0) i → K.w0.heap.size ≤ i) := fun i hx => XP.ge hS hx
    clear hCall hC ho2 hb2 hS hlc
    go_wp2_with fail
    refine hCH.out.mono ?_
    rintro e w3 ⟨hM3, hP3⟩
    have hb3 : Below K.w0.heap.size w2 w3 := hM3.below hXB.out (Nat.le_trans hAH.out.b.size hB2.out.size)
    have hB3 := Lib.hid ((hB2.out.mono hAH.out.b.size).trans hb3)
    have hE2 : Hid (RI = putsE K.v.fs 11 ⟨[], [], 0⟩ b) := hE.out
    clear hM3 hb3
    cases hp : putsE K.v.fs 11 ⟨[], [], 0⟩ b with
    | none =>
      rw [hp] at hP3
      obtain rfl : e = fl := hP3
      exact ⟨rfl, Verb.bad (by rw [hE2.out, hp]; rfl) hB3.out⟩
    | some s =>
      rw [hp] at hP3
      obtain ⟨vf, vo, rfl, hS3, _, _⟩ := hP3
      obtain ⟨A3, c3, rfl, hl3, hC3⟩ := own_reads hS3.o
      have hfin : Hid (Verb K (RI.map fun s => (s.out, s.found)) w (.returned (.slice A3 s.out.length c3)) w3) := by
        refine ⟨hB3.out, ?_⟩
        rw [hE2.out, hp]
        exact ⟨A3, c3, vf, _, rfl, hl3, hC3, hS3.at_, hS3.f, by have := hS3.lf; have := hS3.lm; show s.found.length ≤ 1000; omega⟩
      clear hC3 hS3 hl3 hp
      go_wp2_with fail
      go_ret
      exact hfin.out
theorem verb_any (K : CK) (hK : K.Ok) (verb : Txt) (hv : verbB verb = true) : ∃ g : Nat, (verbF verb).getD .nilFunc = .func (.func g) #[] #[] ∧ (∀ args w, (callFunc g args).run Tryd.prog w = .ok (.enter g args) w) ∧
    ∀ w, K.At w (.slice none 0 0) 0 → Tab w → Calls Tryd.prog g #[at0 K.w0.heap.size] w (Verb K (doE K.v verb K.args) w) := by
  by_cases h1 : verb = kCat
  · subst h1
    exact ⟨27, rfl, enters_of Tryd.func27 (by kernel_rfl) rfl, fun w hA ht => (cat_any K hK w _ _ hA).mono fun e w' h => Verb.of h.gives hA⟩
  by_cases h2 : verb = kRev
  · subst h2
    refine ⟨28, rfl, enters_of Tryd.func28 (by kernel_rfl) rfl, fun w hA ht => (rev_any K hK w _ _ hA).mono fun e w' h => ?_⟩
    have := Verb.of h.gives hA
    rw [Option.map_map] at this
    exact this
  by_cases h3 : verb = kSum
  · subst h3
    exact ⟨29, rfl, enters_of Tryd.func29 (by kernel_rfl) rfl, fun w hA ht => (sum_any K hK w _ _ hA ht).mono fun e w' h => Verb.of h hA⟩
  by_cases h4 : verb = kPut
  · subst h4
    exact ⟨30, rfl, enters_of Tryd.func30 (by kernel_rfl) rfl, fun w hA ht => (put_any K hK w _ _ hA).mono fun e w' h => Verb.of h hA⟩
  by_cases h5 : verb = kInc
  · subst h5
    exact ⟨31, rfl, enters_of Tryd.func31 (by kernel_rfl) rfl, fun w hA ht => inc_any K hK w hA⟩
  have h6 : verb = kFail := by
    simp only [verbB, Bool.or_eq_true, beq_iff_eq] at hv
    rcases hv with ((((h | h) | h) | h) | h) | h
    · exact absurd h h1
    · exact absurd h h2
    · exact absurd h h3
    · exact absurd h h4
    · exact absurd h h5
    · exact h
  subst h6
  exact ⟨32, rfl, enters_of Tryd.func32 (by kernel_rfl) rfl, fun w hA ht => (fail_any K w).mono fun e w' h => by
    have : doE K.v kFail K.args = none := rfl
    rw [this]
    exact Verb.of h.gives hA⟩
end Go.Proofs.YtbklhcjcgiblkaaDoor.Ck
end
section
set_option linter.unusedSimpArgs false
set_option linter.unusedVariables false
namespace Go.Proofs.YtbklhcjcgiblkaaDoor.Ck
open Go.RowKit Go.Lib Go.Shelf Go.Proofs.YtbklhcjcgiblkaaDoor.U Go.Proofs.YtbklhcjcgiblkaaDoor.P Go.Proofs.YtbklhcjcgiblkaaDoor.MapV
open Go.Proofs.YtbklhcjcgiblkaaDoor.Fld (fieldsT fieldsGo flushF)
theorem namesOk_right : ∀ (ws pre : List Txt), namesOk pre ws = true → ∀ w ∈ ws, rightL w = true
  | [], pre, _, w, hw => by simp at hw
  | a :: ws, pre, h, w, hw => by
    rw [namesOk, Bool.and_eq_true, Bool.and_eq_true] at h
    rcases List.mem_cons.1 hw with rfl | hw
    · exact h.1.1
    · exact namesOk_right ws _ h.2 w hw
theorem right_ne {l : Txt} (h : rightL l = true) : l ≠ [] := by
  rintro rfl
  exact absurd h (by decide)
structure OutFacts (outs : List Txt) (dep : Txt) : Prop where
  ne : outs ≠ []
  right : ∀ o ∈ outs, rightL o = true
  dep : dep ≠ [] → rightL dep = true
theorem outputsE_facts {ws outs : List Txt} {dep : Txt} (h : outputsE ws = some (outs, dep)) : OutFacts outs dep := by
  unfold outputsE at h
  split at h
  · split at h
    · rename_i k hk hc
      split at h
      · rename_i hn
        injection h with h
        injection h with h1 h2
        subst h1 h2
        refine ⟨fun e => ?_, fun o ho => namesOk_right _ _ hn.1 o ho, fun _ => hc.2⟩
        have := congrArg List.length e
        rw [List.length_take, List.length_nil] at this
        omega
      · cases h
    · cases h
  · split at h
    · rename_i hn
      injection h with h
      injection h with h1 h2
      subst h1 h2
      exact ⟨hn.2, fun o ho => namesOk_right _ _ hn.1 o ho, fun e => absurd rfl e⟩
    · cases h
theorem shapeW_facts {once : Bool} {ws : List Txt} {s : ShapeL} (h : shapeW once ws = some s) : s.once = once ∧ OutFacts s.outs s.dep ∧ (s.dep ≠ [] ↔ s.verb = kInc) := by
  unfold shapeW at h
  split at h
  · cases h
  · cases h
  · split at h
    · split at h
      · cases h
      · rename_i od ho
        split at h
        · rename_i hd
          injection h with h
          subst h
          refine ⟨rfl, outputsE_facts (by rw [ho]), ?_⟩
          rw [beq_iff_eq, decide_eq_decide] at hd
          exact hd
        · cases h
    · cases h
theorem shapeE_facts {c : Txt} {s : ShapeL} (h : shapeE c = some s) : OutFacts s.outs s.dep ∧ (s.dep ≠ [] ↔ s.verb = kInc) := by
  unfold shapeE at h
  split at h
  · exact (shapeW_facts h).2
  · split at h
    · exact (shapeW_facts h).2
    · exact (shapeW_facts h).2
end Go.Proofs.YtbklhcjcgiblkaaDoor.Ck
end
section
set_option linter.unusedSimpArgs false
set_option linter.unusedVariables false
namespace Go.Proofs.YtbklhcjcgiblkaaDoor.Ck
open Go.RowKit Go.Lib Go.Shelf Go.Maps Go.Proofs.YtbklhcjcgiblkaaDoorW.PrintWords Go.Proofs.YtbklhcjcgiblkaaDoorW.PrintLast Go.Proofs.YtbklhcjcgiblkaaDoorW.PrintMore Go.Proofs.YtbklhcjcgiblkaaDoor.U Go.Proofs.YtbklhcjcgiblkaaDoor.P Go.Proofs.YtbklhcjcgiblkaaDoor.PTh Go.Proofs.YtbklhcjcgiblkaaDoor.MapV
open Go.Proofs.YtbklhcjcgiblkaaDoor.Fld (fieldsT)
def Outs (A : Option Addr) (r : Option (List Txt × Txt)) (w : World) (e : Ending) (w' : World) : Prop := Below w.heap.size w w' ∧ match r with
  | none => e = fl
  | some od => ∃ c, e = .returned (.tuple #[.slice A od.1.length c, .string (B od.2)]) ∧ od.1.length ≤ c ∧ Kd.C Kd.string w' A od.1.length (od.1.map B)
theorem Outs.bad {A : Option Addr} {r : Option (List Txt × Txt)} {w w' : World} (h : r = none) (hb : Below w.heap.size w w') : Outs A r w fl w' := by subst h; exact ⟨hb, rfl⟩
set_option maxRecDepth 100000 in
set_option maxHeartbeats 8000000 in
theorem outputs_any (A : Option Addr) (c : Nat) (ws : List Txt) (w : World) (hc : Kd.C Kd.string w A ws.length (ws.map B)) (hle : ws.length ≤ c) (hn : ws.length < 1000000) :
    Calls Tryd.prog 26 #[.slice A ws.length c] w (Outs A (outputsE ws) w) := by
  obtain ⟨inf, hinf, _⟩ := info_parts infoStr
  have hcH := Lib.hid hc
  have hE : Hid (outputsE ws = match ws.findIdx? (· == [58]) with
    | some k => if k + 2 = ws.length ∧ rightL (ws.getD (k + 1) []) = true then
        (if namesOk [] (ws.take k) = true ∧ 0 < k then some (ws.take k, ws.getD (k + 1) []) else none) else none
    | none => if namesOk [] ws = true ∧ ws ≠ [] then some (ws, []) else none) := rfl
  generalize outputsE ws = R at *
  obtain ⟨N, hN⟩ : ∃ N, ws.length = N := ⟨_, rfl⟩
  have hNH := Lib.hid hN
  have hI := Lib.hid (index_any A c ws [58] w hc hn)
  rw [hN] at hn hle hI ⊢
  clear hc hN
  go_enter Tryd.func26, Tryd.ntmps26
  go_wp2_with fail
  refine hI.out.mono ?_
  rintro e w1 ⟨k, rfl, hk, rfl⟩
  clear hI
  rcases hk with ⟨rfl, hk⟩ | ⟨n, rfl, hi, hk⟩
  · have hRR : Hid (R = if namesOk [] ws = true ∧ 0 < N then some (ws, []) else none) := by
      show R = _
      rw [hE.out, hk]
      simp only
      have : (ws ≠ []) ↔ 0 < N := by rw [← hNH.out, List.length_pos_iff]
      simp only [this]
    have hW : Hid (Kd.C Kd.string w1 A ws.length (ws.map B)) := hcH.out
    have hL : Hid (ws.length = N) := hNH.out
    have hle2 : N ≤ c := hle
    have hB1 : Hid (Below w1.heap.size w1 w1) := Below.refl _ _
    clear hk hE
    go_wp2_with fail
    go_loopg [35] N (fun gk s35 wr => ∃ i : Nat, s35 = .int .i64 (i : Int) ∧ i + gk = N ∧ Hid (namesOk (ws.take i) (ws.drop i) = namesOk [] ws) ∧ Hid (Below w1.heap.size w1 wr))
    case atStart => exact ⟨0, rfl, Nat.zero_add _, by show _ = _; simp, hB1.out⟩
    case round =>
      obtain ⟨i, rfl, hik, hA, hB⟩ := hrel
      cases gk with
      | zero =>
        obtain rfl : i = N := by omega
        have hlt : decide ((i : Int) < (i : Int)) = false := by simp
        have hT : Hid (namesOk [] ws = true) := by
          show _ = _
          rw [← hA.out, List.drop_of_length_le (by rw [hL.out]; omega), namesOk]
        by_cases h0 : 0 < i
        · have hd : decide ((0 : Int) < (i : Int)) = true := by rw [decide_eq_true_iff]; omega
          go_wp2_with fail
          refine (need_yes _).mono ?_
          rintro e w3 ⟨rfl, rfl⟩
          go_wp2_with fail
          go_ret2
          have hR := hRR.out
          rw [if_pos ⟨hT.out, h0⟩] at hR
          rw [hR]
          refine ⟨hB.out, c, ?_, ?_, ?_⟩
          · show _ = Ending.returned (.tuple #[.slice _ ws.length c, _])
            rw [hL.out]; rfl
          · show ws.length ≤ c
            rw [hL.out]; exact hle2
          · exact Kd.C_below hW.out hB.out
        · have hd : decide ((0 : Int) < (i : Int)) = false := by rw [decide_eq_false_iff_not]; omega
          go_wp2_with fail
          refine (need_no _).mono ?_
          rintro e w3 ⟨rfl, rfl⟩
          exact ⟨rfl, Outs.bad (by rw [hRR.out, if_neg (fun h => h0 h.2)]) hB.out⟩
      | succ gk =>
        have hiN : i < ws.length := by rw [hL.out]; omega
        have hlt : decide ((i : Int) < (N : Int)) = true := by rw [decide_eq_true_iff]; omega
        obtain ⟨ad2, hA2, k0⟩ := text_at (Kd.C_below hW.out hB.out) i hiN
        obtain ⟨y, hy⟩ : ∃ y, ws[i] = y := ⟨_, rfl⟩
        have hY := Lib.hid hy
        rw [hy] at k0
        have hAH := Lib.hid hA2
        have hWT := Lib.hid (words_take (Kd.C_below hW.out hB.out) i (by omega))
        have hNM : Hid (namesOk [] ws = (rightL y && !((ws.take i).contains y) && namesOk (ws.take (i + 1)) (ws.drop (i + 1)))) := by
          show _ = _
          rw [← hA.out, List.drop_eq_getElem_cons hiN, namesOk, hy, List.take_succ_eq_append_getElem hiN, hy]
        clear hy hA
        have hi0 : (0 : Int) ≤ (i : Int) := by omega
        have hi1 : (i : Int) ≤ (N : Int) := by omega
        have hcut : ∀ W : World, (Instr.slice 32 (.slice A N c) none (some (.int .i64 (i : Int))) none).run Tryd.prog W = .ok (.slice A i c) W := fun W => by
          have := cut_to 32 9 .i64 Tryd.underlying32 hinf A N c (i : Int) hi0 hi1 hle2 W
          simpa using this
        have hTL : Hid ((ws.take i).length = i) := by show _ = _; rw [List.length_take]; omega
        clear hA2
        obtain ⟨ad, rfl⟩ : ∃ ad, A = some ad := ⟨_, hAH.out⟩
        obtain rfl : ad = ad2 := by have := hAH.out; injection this
        go_wp2_with fail
        refine (right_any y _).mono ?_
        rintro e w3 ⟨rfl, hb3⟩
        have hB3 := Lib.hid (hB.out.trans (hb3.mono hB.out.size))
        cases hr : rightL y with
        | false =>
          clear hb3
          go_wp2_with fail
          refine (need_no _).mono ?_
          rintro e w4 ⟨rfl, rfl⟩
          exact ⟨rfl, Outs.bad (by rw [hRR.out, hNM.out, hr]; simp) hB3.out⟩
        | true =>
          have hCt := contains_any (some ad) c (ws.take i) y w3 (by rw [hTL.out]; exact Kd.C_below hWT.out hb3) (by rw [hTL.out]; omega)
          rw [hTL.out] at hCt
          have hCt2 := Lib.hid hCt
          clear hb3 hCt
          go_wp2_with fail
          refine hCt2.out.mono ?_
          rintro e w4 ⟨rfl, rfl⟩
          cases hx : (ws.take i).contains y with
          | true =>
            go_wp2_with fail
            refine (need_no _).mono ?_
            rintro e w5 ⟨rfl, rfl⟩
            exact ⟨rfl, Outs.bad (by rw [hRR.out, hNM.out, hx]; simp) hB3.out⟩
          | false =>
            have hA3 : Hid (namesOk (ws.take (i + 1)) (ws.drop (i + 1)) = namesOk [] ws) := by
              show _ = _
              rw [hNM.out, hr, hx]; simp
            go_wp2_with fail
            refine (need_yes _).mono ?_
            rintro e w5 ⟨rfl, rfl⟩
            go_wp2_with fail
            go_roundg gk
            case measure => omega
            case rel => exact ⟨i + 1, by first | rfl | simp, by omega, hA3, hB3⟩
  · have hkH := Lib.hid hk
    rw [hNH.out] at hi
    have hd0 : decide ((0 : Int) ≤ (n : Int)) = true := by rw [decide_eq_true_iff]; omega
    clear hk
    by_cases h2 : n + 2 = N
    · have hi1 : (0 : Int) ≤ (n : Int) + 1 := by omega
      have hi2 : (n : Int) + 1 < (N : Int) := by omega
      have heq : ((n : Int) == (N : Int) - 2) = true := by rw [beq_iff_eq]; omega
      obtain ⟨ad, rfl, k0⟩ := text_at hcH.out (n + 1) (by rw [hNH.out]; omega)
      obtain ⟨dp, hdp⟩ : ∃ y, ws[n + 1]'(by rw [hNH.out]; omega) = y := ⟨_, rfl⟩
      rw [hdp] at k0
      replace k0 := cell_add k0
      have hgd : Hid (ws.getD (n + 1) [] = dp) := by
        show _ = _
        rw [List.getD_eq_getElem?_getD, List.getElem?_eq_getElem (by rw [hNH.out]; omega), hdp]; rfl
      have hnat : ((n : Int) + 1).toNat = n + 1 := by omega
      have hwr : IntKind.i64.wrap ((n : Int) + 1) = (n : Int) + 1 := by rw [IntKind.wrap_i64]; omega
      clear hdp
      go_wp2_with fail
      refine (right_any dp _).mono ?_
      rintro e w3 ⟨rfl, hb3⟩
      have hB1 : Hid (Below w1.heap.size w1 w3.drew) := hb3.drew
      have hB3 := Lib.hid hb3
      cases hr : rightL dp with
      | false =>
        clear hb3
        go_wp2_with fail
        refine (need_no _).mono ?_
        rintro e w4 ⟨rfl, rfl⟩
        exact ⟨rfl, Outs.bad (by rw [hE.out, hkH.out]; simp only; rw [if_neg]; rw [hgd.out, hr]; simp) hB3.out⟩
      | true =>
        have hS0 : Hid (w3.drew.cell? ⟨ad.block, ad.off + (n + 1), none⟩ = some (.string (B dp))) := below_cell hB1.out k0
        clear hb3
        go_wp2_with fail
        refine (need_yes _).mono ?_
        rintro e w4 ⟨rfl, rfl⟩
        have hRR : Hid (R = if namesOk [] (ws.take n) = true ∧ 0 < n then some (ws.take n, dp) else none) := by
          show R = _
          rw [hE.out, hkH.out]
          simp only
          rw [if_pos ⟨by rw [hNH.out]; exact h2, by rw [hgd.out]; exact hr⟩, hgd.out]
        have hW : Hid (Kd.C Kd.string w1 (some ad) (ws.take n).length ((ws.take n).map B)) := by
          have := words_take hcH.out n (by rw [hNH.out]; omega)
          have hl : (ws.take n).length = n := by rw [List.length_take, hNH.out]; omega
          show Kd.C _ _ _ _ _
          rw [hl]; exact this
        have hL : Hid ((ws.take n).length = n) := by show _ = _; rw [List.length_take, hNH.out]; omega
        have hle2 : n ≤ c := by omega
        have hj0 : (0 : Int) ≤ (n : Int) := by omega
        have hj1 : (n : Int) ≤ (N : Int) := by omega
        have hcut4 : ∀ W : World, (Instr.slice 32 (.slice (some ad) N c) none (some (.int .i64 (n : Int))) none).run Tryd.prog W = .ok (.slice (some ad) n c) W := fun W => by
          have := cut_to 32 9 .i64 Tryd.underlying32 hinf (some ad) N c (n : Int) hj0 hj1 hle W
          simpa using this
        clear hkH hE
        go_wp2_with fail
        refine RegP.regionH (fun w' => w'.cell? ⟨ad.block, ad.off + (n + 1), none⟩ = some (.string (B dp))) [(0, 0), (0, 1), (0, 2), (0, 3), (0, 4), (0, 5), (0, 6), (1, 7), (0, 8), (0, 9)] (by kernel_rfl) (by kernel_rfl) (by rfl) (by kernel_rfl) (by exact hS0.out) ?_
        refine RegP.pure1 (by (simp only [gA,gB,gC]); rfl) (by exact fun _ _ _ h => h) (by rfl) (by intro w'; go_simp; try with_reducible rfl) ?_
        try simp only [Act.put, pA,pB,pC]
        refine RegP.pure1 (by (simp only [gA,gB,gC]); rfl) (by exact fun _ _ _ h => h) (by rfl) (by intro w'; go_simp; try with_reducible rfl) ?_
        try simp only [Act.put, pA,pB,pC]
        refine RegP.pure1 (by (simp only [gA,gB,gC]); rfl) (by exact fun _ _ _ h => h) (by rfl) (by intro w'; go_simp; try with_reducible rfl) ?_
        try simp only [Act.put, pA,pB,pC]
        refine RegP.pure1 (by (simp only [gA,gB,gC]); rfl) (by exact fun _ _ _ h => h) (by rfl) (by intro w'; go_simp; try with_reducible rfl) ?_
        try simp only [Act.put, pA,pB,pC]
        refine RegP.pure1 (by (simp only [gA,gB,gC]); rfl) (by exact fun _ _ _ h => h) (by rfl) (by intro w'; go_simp; try with_reducible rfl) ?_
        try simp only [Act.put, pA,pB,pC]
        refine RegP.pure1 (by (simp only [gA,gB,gC]); rfl) (by exact fun _ _ _ h => h) (by rfl) (by intro w'; go_simp; try with_reducible rfl) ?_
        try simp only [Act.put, pA,pB,pC]
        refine RegP.pure1 (by (simp only [gA,gB,gC]); rfl) (by exact fun _ _ _ h => h) (by rfl) (by intro w'; go_simp; try with_reducible rfl) ?_
        try simp only [Act.put, pA,pB,pC]
        refine RegP.held1 (by (simp only [gA,gB,gC]); rfl) (by exact fun _ _ _ h => h) (by rfl) (by intro w' hS_; (try dsimp only at hS_); go_split_ands; go_simp; try with_reducible rfl) ?_
        try simp only [Act.put, pA,pB,pC]
        refine RegP.pure1 (by (simp only [gA,gB,gC]); rfl) (by exact fun _ _ _ h => h) (by rfl) (by intro w'; go_simp; try with_reducible rfl) ?_
        try simp only [Act.put, pA,pB,pC]
        refine RegP.pure1 (by (simp only [gA,gB,gC]); rfl) (by exact fun _ _ _ h => h) (by rfl) (by intro w'; go_simp; try with_reducible rfl) ?_
        try simp only [Act.put, pA,pB,pC]
        refine RegP.done1 ?_
        generalize ws.take n = wt at *
        try dsimp only
        clear hwr hnat hi1 hi2 heq hcut4 hS0 k0 hj0 hj1
        go_wp2_with fail
        go_loopg [35] n (fun gk s35 wr => ∃ i : Nat, s35 = .int .i64 (i : Int) ∧ i + gk = n ∧ Hid (namesOk (wt.take i) (wt.drop i) = namesOk [] wt) ∧ Hid (Below w1.heap.size w1 wr))
        case atStart => exact ⟨0, rfl, Nat.zero_add _, by show _ = _; simp, hB1.out⟩
        case round =>
          obtain ⟨i, rfl, hik, hA, hB⟩ := hrel
          cases gk with
          | zero =>
            obtain rfl : i = n := by omega
            have hlt : decide ((i : Int) < (i : Int)) = false := by simp
            have hT : Hid (namesOk [] wt = true) := by
              show _ = _
              rw [← hA.out, List.drop_of_length_le (by rw [hL.out]; omega), namesOk]
            by_cases h0 : 0 < i
            · have hd : decide ((0 : Int) < (i : Int)) = true := by rw [decide_eq_true_iff]; omega
              go_wp2_with fail
              refine (need_yes _).mono ?_
              rintro e w3 ⟨rfl, rfl⟩
              go_wp2_with fail
              go_ret2
              have hR := hRR.out
              rw [if_pos ⟨hT.out, h0⟩] at hR
              rw [hR]
              refine ⟨hB.out, c, ?_, ?_, ?_⟩
              · show _ = Ending.returned (.tuple #[.slice _ wt.length c, _])
                rw [hL.out]; rfl
              · show wt.length ≤ c
                rw [hL.out]; exact hle2
              · exact Kd.C_below hW.out hB.out
            · have hd : decide ((0 : Int) < (i : Int)) = false := by rw [decide_eq_false_iff_not]; omega
              go_wp2_with fail
              refine (need_no _).mono ?_
              rintro e w3 ⟨rfl, rfl⟩
              exact ⟨rfl, Outs.bad (by rw [hRR.out, if_neg (fun h => h0 h.2)]) hB.out⟩
          | succ gk =>
            have hiN : i < wt.length := by rw [hL.out]; omega
            have hlt : decide ((i : Int) < (n : Int)) = true := by rw [decide_eq_true_iff]; omega
            obtain ⟨ad2, hA2, k0⟩ := text_at (Kd.C_below hW.out hB.out) i hiN
            obtain ⟨y, hy⟩ : ∃ y, wt[i] = y := ⟨_, rfl⟩
            have hY := Lib.hid hy
            rw [hy] at k0
            have hAH := Lib.hid hA2
            have hWT := Lib.hid (words_take (Kd.C_below hW.out hB.out) i (by omega))
            have hNM : Hid (namesOk [] wt = (rightL y && !((wt.take i).contains y) && namesOk (wt.take (i + 1)) (wt.drop (i + 1)))) := by
              show _ = _
              rw [← hA.out, List.drop_eq_getElem_cons hiN, namesOk, hy, List.take_succ_eq_append_getElem hiN, hy]
            clear hy hA
            have hi0 : (0 : Int) ≤ (i : Int) := by omega
            have hi1 : (i : Int) ≤ (n : Int) := by omega
            have hcut : ∀ W : World, (Instr.slice 32 (.slice (some ad) n c) none (some (.int .i64 (i : Int))) none).run Tryd.prog W = .ok (.slice (some ad) i c) W := fun W => by
              have := cut_to 32 9 .i64 Tryd.underlying32 hinf (some ad) n c (i : Int) hi0 hi1 hle2 W
              simpa using this
            have hTL : Hid ((wt.take i).length = i) := by show _ = _; rw [List.length_take]; omega
            clear hA2
            obtain rfl : ad = ad2 := by have := hAH.out; injection this
            go_wp2_with fail
            refine (right_any y _).mono ?_
            rintro e w3 ⟨rfl, hb3⟩
            have hB3 := Lib.hid (hB.out.trans (hb3.mono hB.out.size))
            cases hr : rightL y with
            | false =>
              clear hb3
              go_wp2_with fail
              refine (need_no _).mono ?_
              rintro e w4 ⟨rfl, rfl⟩
              exact ⟨rfl, Outs.bad (by rw [hRR.out, hNM.out, hr]; simp) hB3.out⟩
            | true =>
              have hCt := contains_any (some ad) c (wt.take i) y w3 (by rw [hTL.out]; exact Kd.C_below hWT.out hb3) (by rw [hTL.out]; omega)
              rw [hTL.out] at hCt
              have hCt2 := Lib.hid hCt
              clear hb3 hCt
              go_wp2_with fail
              refine hCt2.out.mono ?_
              rintro e w4 ⟨rfl, rfl⟩
              cases hx : (wt.take i).contains y with
              | true =>
                go_wp2_with fail
                refine (need_no _).mono ?_
                rintro e w5 ⟨rfl, rfl⟩
                exact ⟨rfl, Outs.bad (by rw [hRR.out, hNM.out, hx]; simp) hB3.out⟩
              | false =>
                have hA3 : Hid (namesOk (wt.take (i + 1)) (wt.drop (i + 1)) = namesOk [] wt) := by
                  show _ = _
                  rw [hNM.out, hr, hx]; simp
                go_wp2_with fail
                refine (need_yes _).mono ?_
                rintro e w5 ⟨rfl, rfl⟩
                go_wp2_with fail
                go_roundg gk
                case measure => omega
                case rel => exact ⟨i + 1, by first | rfl | simp, by omega, hA3, hB3⟩
    · have heq : ((n : Int) == (N : Int) - 2) = false := by rw [beq_eq_false_iff_ne]; omega
      go_wp2_with fail
      refine (need_no _).mono ?_
      rintro e w4 ⟨rfl, rfl⟩
      exact ⟨rfl, Outs.bad (by rw [hE.out, hkH.out]; simp only; rw [if_neg]; rw [hNH.out]; exact fun h => h2 h.1) (Below.refl _ _)⟩
end Go.Proofs.YtbklhcjcgiblkaaDoor.Ck
end
section
set_option linter.unusedSimpArgs false
set_option linter.unusedVariables false
namespace Go.Proofs.YtbklhcjcgiblkaaDoor.Ck
open Go.RowKit Go.Lib Go.Shelf Go.Maps Go.Proofs.YtbklhcjcgiblkaaDoorW.PrintWords Go.Proofs.YtbklhcjcgiblkaaDoorW.PrintLast Go.Proofs.YtbklhcjcgiblkaaDoorW.PrintMore Go.Proofs.YtbklhcjcgiblkaaDoor.U Go.Proofs.YtbklhcjcgiblkaaDoor.P Go.Proofs.YtbklhcjcgiblkaaDoor.PTh Go.Proofs.YtbklhcjcgiblkaaDoor.MapV
open Go.Proofs.YtbklhcjcgiblkaaDoor.Fld (fieldsT isBl fields_B)
set_option maxRecDepth 100000 in
set_option maxHeartbeats 2000000 in
theorem blank_grows (w : World) : PredGrows Tryd.prog 24 #[] isBl w := by
  intro W x hx hb
  show Calls Tryd.prog _ _ W fun e w' => e = .returned (.bool (isBl x)) ∧ Below W.heap.size W w'
  have d1 : ((x : Int) == 32) = isBl x := by rw [isBl, Bool.eq_iff_iff, beq_iff_eq, beq_iff_eq]; omega
  go_enter Tryd.func24, Tryd.ntmps24
  go_wp2_with fail
  go_ret
  exact ⟨by first | rfl | simp [d1], Below.refl _ _⟩
theorem fields_any (l : Txt) (hl : l.length ≤ 1000000) (W : World) :
    Calls Tryd.prog 23 #[.string (B l), .func (.func 24) #[] #[]] W fun e w' => ∃ X, e = .returned (.slice (some ⟨X, 0, none⟩) (fieldsT l).length (fieldsT l).length) ∧ Kd.C Kd.string w' (some ⟨X, 0, none⟩) (fieldsT l).length ((fieldsT l).map B) ∧ Below W.heap.size W w' := by
  refine (Tryd.strings_FieldsFunc_grows 24 #[] (fun args w => by kernel_rfl) isBl (B l) W (by rw [size_B]; omega) (blank_grows W)).mono ?_
  rintro e w' ⟨X, rfl, hX, ho, hb⟩
  have hR : Kd.R Kd.string 9 w' W.heap.size (fun _ => True) (.slice (some ⟨X, 0, none⟩) (goFieldsP isBl (B l)).length (goFieldsP isBl (B l)).length) (goFieldsP isBl (B l)) := Kd.R_of_own (enc := Value.string) ho (fun _ _ => trivial)
  obtain ⟨A, c, he, hlc, hC⟩ := Kd.R_reads hR
  injection he with h1 h2 h3
  rw [fields_B, List.length_map] at *
  subst h1
  exact ⟨X, rfl, hC, hb⟩
theorem fieldsT_len (l : Txt) : (fieldsT l).length ≤ l.length + 1 := Fld.fieldsGo_len l []
theorem fieldsGo_short (K : Nat) : ∀ (r u : Txt), u.length + r.length ≤ K → ∀ t ∈ Fld.fieldsGo u r, t.length ≤ K
  | [], u, h, t, ht => by
    simp only [Fld.fieldsGo, Fld.flushF] at ht
    split at ht
    · simp at ht
    · rw [List.mem_singleton.1 ht]; simpa using h
  | b :: r, u, h, t, ht => by
    rw [List.length_cons] at h
    rw [Fld.fieldsGo] at ht
    split at ht
    · rcases List.mem_append.1 ht with ht | ht
      · simp only [Fld.flushF] at ht
        split at ht
        · simp at ht
        · rw [List.mem_singleton.1 ht]; omega
      · exact fieldsGo_short K r [] (by simp; omega) t ht
    · exact fieldsGo_short K r (u ++ [b]) (by rw [List.length_append, List.length_singleton]; omega) t ht
theorem fieldsT_short (l : Txt) (h : l.length ≤ 100000) : ∀ t ∈ fieldsT l, t.length ≤ 1000000 := fun t ht => by
  have := fieldsGo_short l.length l [] (by simp) t ht
  omega
def Shapes (r : Option ShapeL) (w : World) (e : Ending) (w' : World) : Prop := Below w.heap.size w w' ∧ match r with
  | none => e = fl
  | some s => ∃ A1 c1 A2 c2, e = .returned (.tuple #[.string (B s.verb), .slice A1 s.args.length c1, .bool s.once, .slice A2 s.outs.length c2, .string (B s.dep)]) ∧ s.args.length ≤ c1 ∧ Kd.C Kd.string w' A1 s.args.length (s.args.map B) ∧ s.outs.length ≤ c2 ∧ Kd.C Kd.string w' A2 s.outs.length (s.outs.map B)
theorem Shapes.bad {r : Option ShapeL} {w w' : World} (h : r = none) (hb : Below w.heap.size w w') : Shapes r w fl w' := by subst h; exact ⟨hb, rfl⟩
theorem neq_verb (k : Txt) (w : World) : (binOp .neq 53 ((verbF k).getD .nilFunc) .nilFunc).run Tryd.prog w = .ok (.bool (verbB k)) w := by
  by_cases h1 : k = [102, 97, 105, 108]
  · subst h1; kernel_rfl
  by_cases h2 : k = [105, 110, 99]
  · subst h2; kernel_rfl
  by_cases h3 : k = [112, 117, 116]
  · subst h3; kernel_rfl
  by_cases h4 : k = [115, 117, 109]
  · subst h4; kernel_rfl
  by_cases h5 : k = [114, 101, 118]
  · subst h5; kernel_rfl
  by_cases h6 : k = [99, 97, 116]
  · subst h6; kernel_rfl
  have e1 : verbF k = none := by simp [verbF, h1, h2, h3, h4, h5, h6]
  have e2 : verbB k = false := by simp [verbB, kCat, kRev, kSum, kPut, kInc, kFail, h1, h2, h3, h4, h5, h6]
  have e3 : ∀ w : World, (binOp .neq 53 .nilFunc .nilFunc).run Tryd.prog w = .ok (.bool false) w := fun w => by kernel_rfl
  rw [e1, e2]
  exact e3 w
theorem eqg_verb (k : Txt) (w : World) : (eqGuard .neq 53 (.tmp 31) (.const .nilFunc) ((verbF k).getD .nilFunc) .nilFunc).run Tryd.prog w = .ok () w := by
  by_cases h1 : k = [102, 97, 105, 108]
  · subst h1; kernel_rfl
  by_cases h2 : k = [105, 110, 99]
  · subst h2; kernel_rfl
  by_cases h3 : k = [112, 117, 116]
  · subst h3; kernel_rfl
  by_cases h4 : k = [115, 117, 109]
  · subst h4; kernel_rfl
  by_cases h5 : k = [114, 101, 118]
  · subst h5; kernel_rfl
  by_cases h6 : k = [99, 97, 116]
  · subst h6; kernel_rfl
  have e1 : verbF k = none := by simp [verbF, h1, h2, h3, h4, h5, h6]
  have e3 : ∀ w : World, (eqGuard .neq 53 (.tmp 31) (.const .nilFunc) .nilFunc .nilFunc).run Tryd.prog w = .ok () w := fun w => by kernel_rfl
  rw [e1]
  exact e3 w
theorem zero_verb (w : World) : (zeroValue 53).run Tryd.prog w = .ok .nilFunc w := by kernel_rfl
theorem words_mid {w : World} {A : Option Addr} {c : Nat} {ws : List Txt} (h : Kd.C Kd.string w A ws.length (ws.map B)) (hc : ws.length ≤ c) (m : Nat) (hm : m ≤ ws.length) (h1 : 1 ≤ m) : Kd.C Kd.string w (if c = 1 then A else A.map (·.add 1)) (m - 1) (((ws.take m).drop 1).map B) := by
  have hl : (ws.take m).length = m := by rw [List.length_take]; omega
  have h2 := words_take h m hm
  have h3 := words_drop (c := c) (ws := ws.take m) (by rw [hl]; exact h2) (by omega) 1 (by omega)
  rw [hl] at h3
  exact h3
theorem take1_len (ws : List Txt) (m : Nat) (hm : m ≤ ws.length) : ((ws.take m).drop 1).length = m - 1 := by rw [List.length_drop, List.length_take]; omega
theorem map_add (A : Option Addr) (c m : Nat) : (if c = m then A else A.map (·.add (m * 1))) = (if c = m then A else A.map (·.add m)) := by rw [Nat.mul_one]
set_option maxRecDepth 100000 in
set_option maxHeartbeats 16000000 in
theorem shape_any (cmd : Txt) (hl : cmd.length ≤ 100000) (w : World) : Calls Tryd.prog 18 #[.string (B cmd)] w (Shapes (shapeE cmd) w) := by
  obtain ⟨inf, hinf, hz0, hz1, hz2⟩ := info_parts infoStr
  have hE : Hid (shapeE cmd = match fieldsT cmd with
    | [] => shapeW false []
    | w :: ws => if w = kOnce then shapeW true ws else shapeW false (w :: ws)) := rfl
  have hfl := fieldsT_len cmd
  have hwds := fieldsT_short cmd hl
  have hF := Lib.hid (fields_any cmd (by omega) w)
  generalize shapeE cmd = R at *
  obtain ⟨ws, hws⟩ : ∃ ws, fieldsT cmd = ws := ⟨_, rfl⟩
  rw [hws] at hE hfl hF hwds
  clear hws
  go_enter Tryd.func18, Tryd.ntmps18
  go_wp2_with fail
  refine hF.out.mono ?_
  rintro e w1 ⟨X, rfl, hc, hb⟩
  have hB1 := Lib.hid hb
  have hcH := Lib.hid hc
  clear hF hb hc
  have hwords : Hid (∀ t ∈ ws, t.length ≤ 1000000) := hwds
  clear hwds
  obtain ⟨N, hN⟩ : ∃ N, ws.length = N := ⟨_, rfl⟩
  have hNH := Lib.hid hN
  rw [hN] at hfl ⊢
  clear hN
  rcases ws with _ | ⟨w0, rest⟩
  · obtain rfl : N = 0 := hNH.out.symm
    have hNo : Hid (R = none) := hE.out
    have hI := Lib.hid (index_any (some ⟨X, 0, none⟩) 0 [] [62] w1 hcH.out (by simp))
    go_wp2_with fail
    refine hI.out.mono ?_
    rintro e w2 ⟨k, rfl, hk, rfl⟩
    obtain rfl : k = -1 := by
      rcases hk with ⟨h, _⟩ | ⟨i, _, h, _⟩
      · exact h
      · simp at h
    go_wp2_with fail
    refine RegP.regionH (fun w' => True) [(0, 0), (0, 1), (0, 2), (4, 3), (4, 4), (4, 5), (4, 6), (4, 7), (4, 8), (0, 9), (2, 10)] (by kernel_rfl) (by kernel_rfl) (by rfl) (by kernel_rfl) (by trivial) ?_
    refine RegP.pure1 (by (simp only [gA,gB,gC]); rfl) (by exact fun _ _ _ h => h) (by rfl) (by intro w'; go_simp; try with_reducible rfl) ?_
    try simp only [Act.put, pA,pB,pC]
    refine RegP.pure1 (by (simp only [gA,gB,gC]); rfl) (by exact fun _ _ _ h => h) (by rfl) (by intro w'; go_simp; try with_reducible rfl) ?_
    try simp only [Act.put, pA,pB,pC]
    refine RegP.pure1 (by (simp only [gA,gB,gC]); rfl) (by exact fun _ _ _ h => h) (by rfl) (by intro w'; go_simp; try with_reducible rfl) ?_
    try simp only [Act.put, pA,pB,pC]
    refine RegP.skip1 (by (simp only [gA,gB,gC]); rfl) (by exact fun _ _ _ h => h) (by rfl) ?_
    try simp only [Act.put, pA,pB,pC]
    refine RegP.skip1 (by (simp only [gA,gB,gC]); rfl) (by exact fun _ _ _ h => h) (by rfl) ?_
    try simp only [Act.put, pA,pB,pC]
    refine RegP.skip1 (by (simp only [gA,gB,gC]); rfl) (by exact fun _ _ _ h => h) (by rfl) ?_
    try simp only [Act.put, pA,pB,pC]
    refine RegP.skip1 (by (simp only [gA,gB,gC]); rfl) (by exact fun _ _ _ h => h) (by rfl) ?_
    try simp only [Act.put, pA,pB,pC]
    refine RegP.skip1 (by (simp only [gA,gB,gC]); rfl) (by exact fun _ _ _ h => h) (by rfl) ?_
    try simp only [Act.put, pA,pB,pC]
    refine RegP.skip1 (by (simp only [gA,gB,gC]); rfl) (by exact fun _ _ _ h => h) (by rfl) ?_
    try simp only [Act.put, pA,pB,pC]
    refine RegP.pure1 (by (simp only [gA,gB,gC]); rfl) (by exact fun _ _ _ h => h) (by rfl) (by intro w'; go_simp; try with_reducible rfl) ?_
    try simp only [Act.put, pA,pB,pC]
    refine RegP.ev1 (by (simp only [gA,gB,gC]); rfl) (fun K hK => ?_)
    go_simp
    refine (need_no _).mono ?_
    rintro e w3 ⟨rfl, rfl⟩
    exact ⟨rfl, Shapes.bad hNo.out hB1.out.drew⟩
  · have hN1 : 0 < N := by rw [← hNH.out]; simp
    have hd0 : decide ((N : Int) > 0) = true := by rw [decide_eq_true_iff]; omega
    have hN1i : (0 : Int) < (N : Int) := by omega
    obtain ⟨ad0, hA0, k0⟩ := text_at hcH.out 0 (by simp)
    injection hA0 with hA0
    subst hA0
    have k1 : w1.cell? ⟨X, 0, none⟩ = some (.string (B w0)) := k0
    by_cases ho : w0 = kOnce
    · have hne : (w0 == [111, 110, 99, 101]) = true := beq_iff_eq.2 ho
      have hRR : Hid (R = shapeW true rest) := by show R = _; rw [hE.out]; exact if_pos ho
      have hrl : ∀ t ∈ rest, t.length ≤ 1000000 := fun t ht => hwords.out t (List.mem_cons_of_mem _ ht)
      obtain ⟨n, hn⟩ : ∃ n, rest.length = n := ⟨_, rfl⟩
      have hL : Hid (rest.length = n) := hn
      have hNn : N = n + 1 := by rw [← hNH.out, List.length_cons, hn]
      have hle2 : n ≤ n := Nat.le_refl _
      have hnn : n ≤ 100001 := by omega
      have hN1j : (1 : Int) ≤ (N : Int) := by omega
      obtain ⟨A, hA⟩ : ∃ A, A = if N = 1 then some (⟨X, 0, none⟩ : Addr) else (some (⟨X, 0, none⟩ : Addr)).map (·.add 1) := ⟨_, rfl⟩
      have hW1 : Hid (Kd.C Kd.string w1 A n (rest.map B)) := by
        have := words_drop (c := N) (ws := w0 :: rest) hcH.out (by rw [hNH.out]; exact Nat.le_refl _) 1 (by simp)
        rw [← hA, hNH.out, hNn] at this
        exact this
      have hcut3 : ∀ W : World, (Instr.slice 32 (.slice (some ⟨X, 0, none⟩) N N) (some (.int .i64 1)) none none).run Tryd.prog W = .ok (.slice A n n) W := fun W => by
        have := cut_from 32 9 .i64 Tryd.underlying32 hinf 1 hz1 (some ⟨X, 0, none⟩) N N 1 (by omega) (by omega) W
        rw [show ((1 : Int)).toNat = 1 from rfl, map_add, ← hA, show N - 1 = n by omega] at this
        exact this
      clear hA hn hNn
      go_wp2_with fail
      refine RegP.regionH (fun w' => True) [(0, 0), (0, 1), (0, 2), (0, 3)] (by kernel_rfl) (by kernel_rfl) (by rfl) (by kernel_rfl) (by trivial) ?_
      refine RegP.pure1 (by (simp only [gA,gB,gC]); rfl) (by exact fun _ _ _ h => h) (by rfl) (by intro w'; go_simp; try with_reducible rfl) ?_
      try simp only [Act.put, pA,pB,pC]
      refine RegP.pure1 (by (simp only [gA,gB,gC]); rfl) (by exact fun _ _ _ h => h) (by rfl) (by intro w'; go_simp; try with_reducible rfl) ?_
      try simp only [Act.put, pA,pB,pC]
      refine RegP.pure1 (by (simp only [gA,gB,gC]); rfl) (by exact fun _ _ _ h => h) (by rfl) (by intro w'; go_simp; try with_reducible rfl) ?_
      try simp only [Act.put, pA,pB,pC]
      refine RegP.pure1 (by (simp only [gA,gB,gC]); rfl) (by exact fun _ _ _ h => h) (by rfl) (by intro w'; go_simp; try with_reducible rfl) ?_
      try simp only [Act.put, pA,pB,pC]
      refine RegP.done1 ?_
      try dsimp only
      obtain ⟨w2, hw2⟩ : ∃ w2, w1.drew = w2 := ⟨_, rfl⟩
      have hW : Hid (Kd.C Kd.string w2 A rest.length (rest.map B)) := by
        show Kd.C _ _ _ _ _
        rw [← hw2, hL.out]; exact Kd.C_below hW1.out ((Below.refl _ _).drew)
      have hBt : Hid (Below w.heap.size w w2) := by show Below _ _ _; rw [← hw2]; exact hB1.out.drew
      have hI := Lib.hid (index_any A n rest [62] w2 hW.out (by rw [hL.out]; omega))
      rw [hL.out] at hI
      rw [hw2]
      clear hcut3 hw2 k1 k0 hW1 hB1 hcH hE hne
      go_wp2_with fail
      refine hI.out.mono ?_
      rintro e w2 ⟨k, rfl, hk, rfl⟩
      clear hI
      rcases hk with ⟨rfl, hk⟩ | ⟨k, rfl, hk1, hk⟩
      · have hNo : Hid (R = none) := by show R = _; rw [hRR.out, shapeW, hk]
        clear hk
        go_wp2_with fail
        refine RegP.regionH (fun w' => True) [(0, 0), (0, 1), (0, 2), (4, 3), (4, 4), (4, 5), (4, 6), (4, 7), (4, 8), (0, 9), (2, 10)] (by kernel_rfl) (by kernel_rfl) (by rfl) (by kernel_rfl) (by trivial) ?_
        refine RegP.pure1 (by (simp only [gA,gB,gC]); rfl) (by exact fun _ _ _ h => h) (by rfl) (by intro w'; go_simp; try with_reducible rfl) ?_
        try simp only [Act.put, pA,pB,pC]
        refine RegP.pure1 (by (simp only [gA,gB,gC]); rfl) (by exact fun _ _ _ h => h) (by rfl) (by intro w'; go_simp; try with_reducible rfl) ?_
        try simp only [Act.put, pA,pB,pC]
        refine RegP.pure1 (by (simp only [gA,gB,gC]); rfl) (by exact fun _ _ _ h => h) (by rfl) (by intro w'; go_simp; try with_reducible rfl) ?_
        try simp only [Act.put, pA,pB,pC]
        refine RegP.skip1 (by (simp only [gA,gB,gC]); rfl) (by exact fun _ _ _ h => h) (by rfl) ?_
        try simp only [Act.put, pA,pB,pC]
        refine RegP.skip1 (by (simp only [gA,gB,gC]); rfl) (by exact fun _ _ _ h => h) (by rfl) ?_
        try simp only [Act.put, pA,pB,pC]
        refine RegP.skip1 (by (simp only [gA,gB,gC]); rfl) (by exact fun _ _ _ h => h) (by rfl) ?_
        try simp only [Act.put, pA,pB,pC]
        refine RegP.skip1 (by (simp only [gA,gB,gC]); rfl) (by exact fun _ _ _ h => h) (by rfl) ?_
        try simp only [Act.put, pA,pB,pC]
        refine RegP.skip1 (by (simp only [gA,gB,gC]); rfl) (by exact fun _ _ _ h => h) (by rfl) ?_
        try simp only [Act.put, pA,pB,pC]
        refine RegP.skip1 (by (simp only [gA,gB,gC]); rfl) (by exact fun _ _ _ h => h) (by rfl) ?_
        try simp only [Act.put, pA,pB,pC]
        refine RegP.pure1 (by (simp only [gA,gB,gC]); rfl) (by exact fun _ _ _ h => h) (by rfl) (by intro w'; go_simp; try with_reducible rfl) ?_
        try simp only [Act.put, pA,pB,pC]
        refine RegP.ev1 (by (simp only [gA,gB,gC]); rfl) (fun K hK => ?_)
        go_simp
        refine (need_no _).mono ?_
        rintro e w3 ⟨rfl, rfl⟩
        exact ⟨rfl, Shapes.bad hNo.out hBt.out.drew⟩
      · rw [hL.out] at hk1
        by_cases hk0 : k = 0
        · subst hk0
          have hNo : Hid (R = none) := by show R = _; rw [hRR.out, shapeW, hk]
          clear hk
          go_wp2_with fail
          refine RegP.regionH (fun w' => True) [(0, 0), (0, 1), (0, 2), (4, 3), (4, 4), (4, 5), (4, 6), (4, 7), (4, 8), (0, 9), (2, 10)] (by kernel_rfl) (by kernel_rfl) (by rfl) (by kernel_rfl) (by trivial) ?_
          refine RegP.pure1 (by (simp only [gA,gB,gC]); rfl) (by exact fun _ _ _ h => h) (by rfl) (by intro w'; go_simp; try with_reducible rfl) ?_
          try simp only [Act.put, pA,pB,pC]
          refine RegP.pure1 (by (simp only [gA,gB,gC]); rfl) (by exact fun _ _ _ h => h) (by rfl) (by intro w'; go_simp; try with_reducible rfl) ?_
          try simp only [Act.put, pA,pB,pC]
          refine RegP.pure1 (by (simp only [gA,gB,gC]); rfl) (by exact fun _ _ _ h => h) (by rfl) (by intro w'; go_simp; try with_reducible rfl) ?_
          try simp only [Act.put, pA,pB,pC]
          refine RegP.skip1 (by (simp only [gA,gB,gC]); rfl) (by exact fun _ _ _ h => h) (by rfl) ?_
          try simp only [Act.put, pA,pB,pC]
          refine RegP.skip1 (by (simp only [gA,gB,gC]); rfl) (by exact fun _ _ _ h => h) (by rfl) ?_
          try simp only [Act.put, pA,pB,pC]
          refine RegP.skip1 (by (simp only [gA,gB,gC]); rfl) (by exact fun _ _ _ h => h) (by rfl) ?_
          try simp only [Act.put, pA,pB,pC]
          refine RegP.skip1 (by (simp only [gA,gB,gC]); rfl) (by exact fun _ _ _ h => h) (by rfl) ?_
          try simp only [Act.put, pA,pB,pC]
          refine RegP.skip1 (by (simp only [gA,gB,gC]); rfl) (by exact fun _ _ _ h => h) (by rfl) ?_
          try simp only [Act.put, pA,pB,pC]
          refine RegP.skip1 (by (simp only [gA,gB,gC]); rfl) (by exact fun _ _ _ h => h) (by rfl) ?_
          try simp only [Act.put, pA,pB,pC]
          refine RegP.pure1 (by (simp only [gA,gB,gC]); rfl) (by exact fun _ _ _ h => h) (by rfl) (by intro w'; go_simp; try with_reducible rfl) ?_
          try simp only [Act.put, pA,pB,pC]
          refine RegP.ev1 (by (simp only [gA,gB,gC]); rfl) (fun K hK => ?_)
          go_simp
          refine (need_no _).mono ?_
          rintro e w3 ⟨rfl, rfl⟩
          exact ⟨rfl, Shapes.bad hNo.out hBt.out.drew⟩
        · have hd1 : decide ((k : Int) ≥ 1) = true := by rw [decide_eq_true_iff]; omega
          have hd2 : decide (1 ≤ (k : Int)) = true := by rw [decide_eq_true_iff]; omega
          have hn0i : (0 : Int) < (n : Int) := by omega
          have hn0 : 0 < n := by omega
          obtain ⟨ad, hA, k0⟩ := text_at hW.out 0 (by rw [hL.out]; omega)
          obtain ⟨v0, hv0⟩ : ∃ y, rest[0]'(by rw [hL.out]; omega) = y := ⟨_, rfl⟩
          rw [hv0] at k0
          have e0 : ad.add 0 = ad := by simp [Addr.add]
          rw [e0] at k0
          have hv0l : v0.length ≤ 1000000 := by rw [← hv0]; exact hrl _ (List.getElem_mem _)
          have hgd : Hid (rest.getD 0 [] = v0) := by
            show _ = _
            rw [List.getD_eq_getElem?_getD, List.getElem?_eq_getElem (by rw [hL.out]; omega), hv0]; rfl
          subst hA
          have hS5 : Hid ((w2.drew).cell? ad = some (.string (B v0))) := k0
          have hRS : Hid (R = if verbB v0 = true then match outputsE (rest.drop (k + 1)) with
              | none => none
              | some od => if (decide (od.2 ≠ []) == decide (v0 = kInc)) = true then some ⟨v0, (rest.take k).drop 1, true, od.1, od.2⟩ else none
            else none) := by
            show R = _
            rw [hRR.out, shapeW, hk]
            obtain ⟨k', rfl⟩ : ∃ k', k = k' + 1 := ⟨k - 1, by omega⟩
            simp only [hgd.out]
            rfl
          clear hRR hk hv0 hgd e0 k0
          go_wp2_with fail
          refine RegP.regionH (fun w' => w'.cell? ad = some (.string (B v0))) [(0, 0), (0, 1), (0, 2), (0, 4), (0, 5), (1, 6), (2, 3), (2, 7), (0, 8), (0, 9), (2, 10)] (by kernel_rfl) (by kernel_rfl) (by rfl) (by kernel_rfl) (by exact hS5.out) ?_
          refine RegP.pure1 (by (simp only [gA,gB,gC]); rfl) (by exact fun _ _ _ h => h) (by rfl) (by intro w'; go_simp; try with_reducible rfl) ?_
          try simp only [Act.put, pA,pB,pC]
          refine RegP.pure1 (by (simp only [gA,gB,gC]); rfl) (by exact fun _ _ _ h => h) (by rfl) (by intro w'; go_simp; try with_reducible rfl) ?_
          try simp only [Act.put, pA,pB,pC]
          refine RegP.pure1 (by (simp only [gA,gB,gC]); rfl) (by exact fun _ _ _ h => h) (by rfl) (by intro w'; go_simp; try with_reducible rfl) ?_
          try simp only [Act.put, pA,pB,pC]
          refine RegP.pure1 (by (simp only [gA,gB,gC]); rfl) (by exact fun _ _ _ h => h) (by rfl) (by intro w'; go_simp; try with_reducible rfl) ?_
          try simp only [Act.put, pA,pB,pC]
          refine RegP.pure1 (by (simp only [gA,gB,gC]); rfl) (by exact fun _ _ _ h => h) (by rfl) (by intro w'; go_simp; try with_reducible rfl) ?_
          try simp only [Act.put, pA,pB,pC]
          refine RegP.held1 (by (simp only [gA,gB,gC]); rfl) (by exact fun _ _ _ h => h) (by rfl) (by intro w' hS_; (try dsimp only at hS_); go_split_ands; go_simp; try with_reducible rfl) ?_
          try simp only [Act.put, pA,pB,pC]
          refine RegP.ev1 (by (simp only [gA,gB,gC]); rfl) (fun K hK => ?_)
          go_simp
          refine (verbs_any _).mono ?_
          rintro e w3 ⟨rfl, hM, hb3⟩
          have hB3 := Lib.hid (hBt.out.drew.trans (hb3.mono hBt.out.drew.size))
          have hW3 := Lib.hid (Kd.C_below (Kd.C_below hW.out ((Below.refl _ _).drew)) hb3)
          have hS6 : Hid (w3.cell? ad = some (.string (B v0))) := below_cell hb3 hS5.out
          have hlk : (Instr.lookup 54 (.map (some w2.heap.size)) (.string (B v0)) false).run Tryd.prog w3 = .ok ((verbF v0).getD .nilFunc) w3 := hM.look (t := 54) Tryd.underlying54 (zero_verb w3) v0 (by unfold maxLen; omega)
          have hnv := neq_verb v0
          have heg := eqg_verb v0
          clear hM hb3 hS5
          generalize (verbF v0).getD .nilFunc = vf at *
          refine hK.out _ _ ?_ (fun hHeld => ?_)
          · (try dsimp only); exact hS6.out
          clear hK K
          try simp only [Act.put, pA,pB,pC]
          refine RegP.ev1 (by (simp only [gA,gB,gC]); rfl) (fun K hK => ?_)
          go_simp
          refine hK.out _ _ ?_ (fun hHeld => ?_)
          · (try dsimp only); exact hS6.out
          clear hK K
          try simp only [Act.put, pA,pB,pC]
          refine RegP.pure1 (by (simp only [gA,gB,gC]); rfl) (by exact fun _ _ _ h => h) (by rfl) (by intro w'; go_simp; try with_reducible rfl) ?_
          try simp only [Act.put, pA,pB,pC]
          refine RegP.pure1 (by (simp only [gA,gB,gC]); rfl) (by exact fun _ _ _ h => h) (by rfl) (by intro w'; go_simp; try with_reducible rfl) ?_
          try simp only [Act.put, pA,pB,pC]
          refine RegP.ev1 (by (simp only [gA,gB,gC]); rfl) (fun K hK => ?_)
          go_simp
          cases hvb : verbB v0 with
          | false =>
            refine (need_no _).mono ?_
            rintro e w4 ⟨rfl, rfl⟩
            exact ⟨rfl, Shapes.bad (by rw [hRS.out, hvb]; rfl) hB3.out⟩
          | true =>
            refine (need_yes _).mono ?_
            rintro e w4 ⟨rfl, rfl⟩
            refine hK.out _ _ ?_ (fun hHeld => ?_)
            · (try dsimp only); exact hS6.out
            clear hK K
            try simp only [Act.put, pA,pB,pC]
            refine RegP.done1 ?_
            clear hHeld
            try dsimp only
            clear hnv hlk heg
            have hRT : Hid (R = match outputsE (rest.drop (k + 1)) with
                | none => none
                | some od => if (decide (od.2 ≠ []) == decide (v0 = kInc)) = true then some ⟨v0, (rest.take k).drop 1, true, od.1, od.2⟩ else none) := by
              show R = _
              rw [hRS.out, hvb]; rfl
            have hj0 : (0 : Int) ≤ (k : Int) + 1 := by omega
            have hj1 : (k : Int) + 1 ≤ (n : Int) := by omega
            have hj2 : (1 : Int) ≤ (k : Int) := by omega
            have hj3 : (k : Int) ≤ (n : Int) := by omega
            have hwr : IntKind.i64.wrap ((k : Int) + 1) = (k : Int) + 1 := by rw [IntKind.wrap_i64]; omega
            have hDL : Hid ((rest.drop (k + 1)).length = n - (k + 1)) := by show _ = _; rw [List.length_drop, hL.out]
            obtain ⟨A6, hA6⟩ : ∃ A6, A6 = if n = k + 1 then some ad else (some ad).map (·.add (k + 1)) := ⟨_, rfl⟩
            have hC6 : Hid (Kd.C Kd.string w3 A6 (n - (k + 1)) ((rest.drop (k + 1)).map B)) := by
              have := words_drop (c := n) hW3.out (by rw [hL.out]; exact hle2) (k + 1) (by rw [hL.out]; omega)
              rw [hL.out, ← hA6] at this
              exact this
            have hcut6 : ∀ W : World, (Instr.slice 32 (.slice (some ad) n n) (some (.int .i64 ((k : Int) + 1))) none none).run Tryd.prog W = .ok (.slice A6 (n - (k + 1)) (n - (k + 1))) W := fun W => by
              have := cut_from 32 9 .i64 Tryd.underlying32 hinf 1 hz1 (some ad) n n ((k : Int) + 1) hj0 hj1 W
              rw [show ((k : Int) + 1).toNat = k + 1 by omega, map_add, ← hA6] at this
              exact this
            obtain ⟨A8, hA8⟩ : ∃ A8, A8 = if n = 1 then some ad else (some ad).map (·.add 1) := ⟨_, rfl⟩
            have hC8 : Hid (Kd.C Kd.string w3 A8 (k - 1) (((rest.take k).drop 1).map B)) := by
              have := words_mid (c := n) hW3.out (by rw [hL.out]; exact hle2) k (by rw [hL.out]; omega) (by omega)
              rw [← hA8] at this
              exact this
            have hcut8 : ∀ W : World, (Instr.slice 32 (.slice (some ad) n n) (some (.int .i64 1)) (some (.int .i64 (k : Int))) none).run Tryd.prog W = .ok (.slice A8 (k - 1) (n - 1)) W := fun W => by
              have := cut_mid 32 9 .i64 .i64 Tryd.underlying32 hinf 1 hz1 (some ad) n n 1 (k : Int) (by omega) hj2 hj3 hle2 W
              rw [show ((1 : Int)).toNat = 1 from rfl, show ((k : Int)).toNat = k by omega, map_add, ← hA8] at this
              exact this
            have hO := outputs_any A6 (n - (k + 1)) (rest.drop (k + 1)) w3 (by rw [hDL.out]; exact hC6.out) (by rw [hDL.out]; omega) (by rw [hDL.out]; omega)
            rw [hDL.out] at hO
            have hAL : Hid (((rest.take k).drop 1).length = k - 1) := take1_len rest k (by rw [hL.out]; omega)
            have hOH := Lib.hid hO
            clear hO hRS hC6 hA6 hA8 hDL
            generalize (rest.take k).drop 1 = args at *
            generalize outputsE (rest.drop (k + 1)) = ro at *
            go_wp2_with fail
            refine hOH.out.mono ?_
            rintro e w5 ⟨hb5, hP⟩
            have hB5 := Lib.hid (hB3.out.trans (hb5.mono hB3.out.size))
            have hS8 : Hid (w5.drew.cell? ad = some (.string (B v0))) := below_cell hb5.drew hS6.out
            have hC8' := Lib.hid (Kd.C_below hC8.out hb5.drew)
            clear hcut6 hOH hwr hC8
            cases ro with
            | none =>
              obtain rfl : e = fl := hP
              exact ⟨rfl, Shapes.bad hRT.out hB5.out⟩
            | some od =>
              obtain ⟨outs, dep⟩ := od
              obtain ⟨c2, rfl, hl2, hC2⟩ := hP
              have hC2' := Lib.hid (Kd.C_below hC2 (Below.refl w5.heap.size w5).drew)
              have hl2' := Lib.hid hl2
              have hk0 : w5.cell? ad = some (.string (B v0)) := hS8.out
              clear hb5 hC2 hl2
              dsimp only at *
              cases hvi : (v0 == [105, 110, 99]) with
              | false =>
                have hvk : Hid (v0 ≠ kInc) := beq_eq_false_iff_ne.1 hvi
                cases dep with
                | nil =>
                  have hRU : Hid (R = some ⟨v0, args, true, outs, []⟩) := by
                    show R = _
                    rw [hRT.out]; simp [hvk.out] <;> exact hvk.out.symm
                  go_wp2_with fail
                  refine (need_yes _).mono ?_
                  rintro e w6 ⟨rfl, rfl⟩
                  go_wp2_with fail
                  refine RegP.regionH (fun w' => w'.cell? ad = some (.string (B v0))) [(0, 0), (0, 1), (1, 2), (0, 3), (0, 4), (0, 5), (0, 6), (0, 7), (0, 8), (0, 9), (0, 10), (0, 11), (0, 12), (0, 13)] (by kernel_rfl) (by kernel_rfl) (by rfl) (by kernel_rfl) (by exact hS8.out) ?_
                  refine RegP.pure1 (by (simp only [gA,gB,gC]); rfl) (by exact fun _ _ _ h => h) (by rfl) (by intro w'; go_simp; try with_reducible rfl) ?_
                  try simp only [Act.put, pA,pB,pC]
                  refine RegP.pure1 (by (simp only [gA,gB,gC]); rfl) (by exact fun _ _ _ h => h) (by rfl) (by intro w'; go_simp; try with_reducible rfl) ?_
                  try simp only [Act.put, pA,pB,pC]
                  refine RegP.held1 (by (simp only [gA,gB,gC]); rfl) (by exact fun _ _ _ h => h) (by rfl) (by intro w' hS_; (try dsimp only at hS_); go_split_ands; go_simp; try with_reducible rfl) ?_
                  try simp only [Act.put, pA,pB,pC]
                  refine RegP.pure1 (by (simp only [gA,gB,gC]); rfl) (by exact fun _ _ _ h => h) (by rfl) (by intro w'; go_simp; try with_reducible rfl) ?_
                  try simp only [Act.put, pA,pB,pC]
                  refine RegP.pure1 (by (simp only [gA,gB,gC]); rfl) (by exact fun _ _ _ h => h) (by rfl) (by intro w'; go_simp; try with_reducible rfl) ?_
                  try simp only [Act.put, pA,pB,pC]
                  refine RegP.pure1 (by (simp only [gA,gB,gC]); rfl) (by exact fun _ _ _ h => h) (by rfl) (by intro w'; go_simp; try with_reducible rfl) ?_
                  try simp only [Act.put, pA,pB,pC]
                  refine RegP.pure1 (by (simp only [gA,gB,gC]); rfl) (by exact fun _ _ _ h => h) (by rfl) (by intro w'; go_simp; try with_reducible rfl) ?_
                  try simp only [Act.put, pA,pB,pC]
                  refine RegP.pure1 (by (simp only [gA,gB,gC]); rfl) (by exact fun _ _ _ h => h) (by rfl) (by intro w'; go_simp; try with_reducible rfl) ?_
                  try simp only [Act.put, pA,pB,pC]
                  refine RegP.pure1 (by (simp only [gA,gB,gC]); rfl) (by exact fun _ _ _ h => h) (by rfl) (by intro w'; go_simp; try with_reducible rfl) ?_
                  try simp only [Act.put, pA,pB,pC]
                  refine RegP.pure1 (by (simp only [gA,gB,gC]); rfl) (by exact fun _ _ _ h => h) (by rfl) (by intro w'; go_simp; try with_reducible rfl) ?_
                  try simp only [Act.put, pA,pB,pC]
                  refine RegP.pure1 (by (simp only [gA,gB,gC]); rfl) (by exact fun _ _ _ h => h) (by rfl) (by intro w'; go_simp; try with_reducible rfl) ?_
                  try simp only [Act.put, pA,pB,pC]
                  refine RegP.pure1 (by (simp only [gA,gB,gC]); rfl) (by exact fun _ _ _ h => h) (by rfl) (by intro w'; go_simp; try with_reducible rfl) ?_
                  try simp only [Act.put, pA,pB,pC]
                  refine RegP.pure1 (by (simp only [gA,gB,gC]); rfl) (by exact fun _ _ _ h => h) (by rfl) (by intro w'; go_simp; try with_reducible rfl) ?_
                  try simp only [Act.put, pA,pB,pC]
                  refine RegP.pure1 (by (simp only [gA,gB,gC]); rfl) (by exact fun _ _ _ h => h) (by rfl) (by intro w'; go_simp; try with_reducible rfl) ?_
                  try simp only [Act.put, pA,pB,pC]
                  refine RegP.done1 ?_
                  try dsimp only
                  go_wp2_with fail
                  rw [hRU.out]
                  refine bodyPost_ret (v := .tuple #[.string (B v0), .slice A8 (k - 1) (n - 1), .bool true, .slice A6 outs.length c2, .string (B [])]) (by simp [results, Tryd.results18, go_sem]) rfl ⟨hB5.out.drew, A8, n - 1, A6, c2, ?_, ?_, ?_, hl2'.out, hC2'.out⟩
                  · show _ = Ending.returned (.tuple #[_, .slice _ args.length _, _, _, _])
                    rw [hAL.out]
                  · show args.length ≤ _
                    rw [hAL.out]; omega
                  · show Kd.C _ _ _ args.length _
                    rw [hAL.out]; exact hC8'.out
                | cons d0 ds =>
                  go_wp2_with fail
                  refine (need_no _).mono ?_
                  rintro e w6 ⟨rfl, rfl⟩
                  exact ⟨rfl, Shapes.bad (by rw [hRT.out]; simp [hvk.out]) hB5.out⟩
              | true =>
                have hvk : Hid (v0 = kInc) := beq_iff_eq.1 hvi
                cases dep with
                | nil =>
                  go_wp2_with fail
                  refine (need_no _).mono ?_
                  rintro e w6 ⟨rfl, rfl⟩
                  exact ⟨rfl, Shapes.bad (by rw [hRT.out]; simp [hvk.out]) hB5.out⟩
                | cons d0 ds =>
                  have hRU : Hid (R = some ⟨v0, args, true, outs, (d0 :: ds)⟩) := by
                    show R = _
                    rw [hRT.out]; simp [hvk.out] <;> exact hvk.out.symm
                  go_wp2_with fail
                  refine (need_yes _).mono ?_
                  rintro e w6 ⟨rfl, rfl⟩
                  go_wp2_with fail
                  refine RegP.regionH (fun w' => w'.cell? ad = some (.string (B v0))) [(0, 0), (0, 1), (1, 2), (0, 3), (0, 4), (0, 5), (0, 6), (0, 7), (0, 8), (0, 9), (0, 10), (0, 11), (0, 12), (0, 13)] (by kernel_rfl) (by kernel_rfl) (by rfl) (by kernel_rfl) (by exact hS8.out) ?_
                  refine RegP.pure1 (by (simp only [gA,gB,gC]); rfl) (by exact fun _ _ _ h => h) (by rfl) (by intro w'; go_simp; try with_reducible rfl) ?_
                  try simp only [Act.put, pA,pB,pC]
                  refine RegP.pure1 (by (simp only [gA,gB,gC]); rfl) (by exact fun _ _ _ h => h) (by rfl) (by intro w'; go_simp; try with_reducible rfl) ?_
                  try simp only [Act.put, pA,pB,pC]
                  refine RegP.held1 (by (simp only [gA,gB,gC]); rfl) (by exact fun _ _ _ h => h) (by rfl) (by intro w' hS_; (try dsimp only at hS_); go_split_ands; go_simp; try with_reducible rfl) ?_
                  try simp only [Act.put, pA,pB,pC]
                  refine RegP.pure1 (by (simp only [gA,gB,gC]); rfl) (by exact fun _ _ _ h => h) (by rfl) (by intro w'; go_simp; try with_reducible rfl) ?_
                  try simp only [Act.put, pA,pB,pC]
                  refine RegP.pure1 (by (simp only [gA,gB,gC]); rfl) (by exact fun _ _ _ h => h) (by rfl) (by intro w'; go_simp; try with_reducible rfl) ?_
                  try simp only [Act.put, pA,pB,pC]
                  refine RegP.pure1 (by (simp only [gA,gB,gC]); rfl) (by exact fun _ _ _ h => h) (by rfl) (by intro w'; go_simp; try with_reducible rfl) ?_
                  try simp only [Act.put, pA,pB,pC]
                  refine RegP.pure1 (by (simp only [gA,gB,gC]); rfl) (by exact fun _ _ _ h => h) (by rfl) (by intro w'; go_simp; try with_reducible rfl) ?_
                  try simp only [Act.put, pA,pB,pC]
                  refine RegP.pure1 (by (simp only [gA,gB,gC]); rfl) (by exact fun _ _ _ h => h) (by rfl) (by intro w'; go_simp; try with_reducible rfl) ?_
                  try simp only [Act.put, pA,pB,pC]
                  refine RegP.pure1 (by (simp only [gA,gB,gC]); rfl) (by exact fun _ _ _ h => h) (by rfl) (by intro w'; go_simp; try with_reducible rfl) ?_
                  try simp only [Act.put, pA,pB,pC]
                  refine RegP.pure1 (by (simp only [gA,gB,gC]); rfl) (by exact fun _ _ _ h => h) (by rfl) (by intro w'; go_simp; try with_reducible rfl) ?_
                  try simp only [Act.put, pA,pB,pC]
                  refine RegP.pure1 (by (simp only [gA,gB,gC]); rfl) (by exact fun _ _ _ h => h) (by rfl) (by intro w'; go_simp; try with_reducible rfl) ?_
                  try simp only [Act.put, pA,pB,pC]
                  refine RegP.pure1 (by (simp only [gA,gB,gC]); rfl) (by exact fun _ _ _ h => h) (by rfl) (by intro w'; go_simp; try with_reducible rfl) ?_
                  try simp only [Act.put, pA,pB,pC]
                  refine RegP.pure1 (by (simp only [gA,gB,gC]); rfl) (by exact fun _ _ _ h => h) (by rfl) (by intro w'; go_simp; try with_reducible rfl) ?_
                  try simp only [Act.put, pA,pB,pC]
                  refine RegP.pure1 (by (simp only [gA,gB,gC]); rfl) (by exact fun _ _ _ h => h) (by rfl) (by intro w'; go_simp; try with_reducible rfl) ?_
                  try simp only [Act.put, pA,pB,pC]
                  refine RegP.done1 ?_
                  try dsimp only
                  go_wp2_with fail
                  rw [hRU.out]
                  refine bodyPost_ret (v := .tuple #[.string (B v0), .slice A8 (k - 1) (n - 1), .bool true, .slice A6 outs.length c2, .string (B (d0 :: ds))]) (by simp [results, Tryd.results18, go_sem]) rfl ⟨hB5.out.drew, A8, n - 1, A6, c2, ?_, ?_, ?_, hl2'.out, hC2'.out⟩
                  · show _ = Ending.returned (.tuple #[_, .slice _ args.length _, _, _, _])
                    rw [hAL.out]
                  · show args.length ≤ _
                    rw [hAL.out]; omega
                  · show Kd.C _ _ _ args.length _
                    rw [hAL.out]; exact hC8'.out
    · have hne : (w0 == [111, 110, 99, 101]) = false := beq_eq_false_iff_ne.2 ho
      have hRR : Hid (R = shapeW false (w0 :: rest)) := by show R = _; rw [hE.out]; exact if_neg ho
      have hwl : ∀ t ∈ w0 :: rest, t.length ≤ 1000000 := hwords.out
      have hL : Hid ((w0 :: rest).length = N) := hNH.out
      have hle2 : N ≤ N := Nat.le_refl _
      have hBt := hB1
      go_wp2_with fail
      generalize hAA : (some (⟨X, 0, none⟩ : Addr)) = A at *
      have hW : Hid (Kd.C Kd.string w1 A (w0 :: rest).length ((w0 :: rest).map B)) := hcH.out
      have hI := Lib.hid (index_any A N (w0 :: rest) [62] w1 hW.out (by rw [hL.out]; omega))
      rw [hL.out] at hI
      clear k1 k0 hcH hE hne hAA
      refine hI.out.mono ?_
      rintro e w1 ⟨k, rfl, hk, rfl⟩
      clear hI
      rcases hk with ⟨rfl, hk⟩ | ⟨k, rfl, hk1, hk⟩
      · have hNo : Hid (R = none) := by show R = _; rw [hRR.out, shapeW, hk]
        clear hk
        go_wp2_with fail
        refine RegP.regionH (fun w' => True) [(0, 0), (0, 1), (0, 2), (4, 3), (4, 4), (4, 5), (4, 6), (4, 7), (4, 8), (0, 9), (2, 10)] (by kernel_rfl) (by kernel_rfl) (by rfl) (by kernel_rfl) (by trivial) ?_
        refine RegP.pure1 (by (simp only [gA,gB,gC]); rfl) (by exact fun _ _ _ h => h) (by rfl) (by intro w'; go_simp; try with_reducible rfl) ?_
        try simp only [Act.put, pA,pB,pC]
        refine RegP.pure1 (by (simp only [gA,gB,gC]); rfl) (by exact fun _ _ _ h => h) (by rfl) (by intro w'; go_simp; try with_reducible rfl) ?_
        try simp only [Act.put, pA,pB,pC]
        refine RegP.pure1 (by (simp only [gA,gB,gC]); rfl) (by exact fun _ _ _ h => h) (by rfl) (by intro w'; go_simp; try with_reducible rfl) ?_
        try simp only [Act.put, pA,pB,pC]
        refine RegP.skip1 (by (simp only [gA,gB,gC]); rfl) (by exact fun _ _ _ h => h) (by rfl) ?_
        try simp only [Act.put, pA,pB,pC]
        refine RegP.skip1 (by (simp only [gA,gB,gC]); rfl) (by exact fun _ _ _ h => h) (by rfl) ?_
        try simp only [Act.put, pA,pB,pC]
        refine RegP.skip1 (by (simp only [gA,gB,gC]); rfl) (by exact fun _ _ _ h => h) (by rfl) ?_
        try simp only [Act.put, pA,pB,pC]
        refine RegP.skip1 (by (simp only [gA,gB,gC]); rfl) (by exact fun _ _ _ h => h) (by rfl) ?_
        try simp only [Act.put, pA,pB,pC]
        refine RegP.skip1 (by (simp only [gA,gB,gC]); rfl) (by exact fun _ _ _ h => h) (by rfl) ?_
        try simp only [Act.put, pA,pB,pC]
        refine RegP.skip1 (by (simp only [gA,gB,gC]); rfl) (by exact fun _ _ _ h => h) (by rfl) ?_
        try simp only [Act.put, pA,pB,pC]
        refine RegP.pure1 (by (simp only [gA,gB,gC]); rfl) (by exact fun _ _ _ h => h) (by rfl) (by intro w'; go_simp; try with_reducible rfl) ?_
        try simp only [Act.put, pA,pB,pC]
        refine RegP.ev1 (by (simp only [gA,gB,gC]); rfl) (fun K hK => ?_)
        go_simp
        refine (need_no _).mono ?_
        rintro e w3 ⟨rfl, rfl⟩
        exact ⟨rfl, Shapes.bad hNo.out hBt.out.drew⟩
      · rw [hL.out] at hk1
        by_cases hk0 : k = 0
        · subst hk0
          have hNo : Hid (R = none) := by show R = _; rw [hRR.out, shapeW, hk]
          clear hk
          go_wp2_with fail
          refine RegP.regionH (fun w' => True) [(0, 0), (0, 1), (0, 2), (4, 3), (4, 4), (4, 5), (4, 6), (4, 7), (4, 8), (0, 9), (2, 10)] (by kernel_rfl) (by kernel_rfl) (by rfl) (by kernel_rfl) (by trivial) ?_
          refine RegP.pure1 (by (simp only [gA,gB,gC]); rfl) (by exact fun _ _ _ h => h) (by rfl) (by intro w'; go_simp; try with_reducible rfl) ?_
          try simp only [Act.put, pA,pB,pC]
          refine RegP.pure1 (by (simp only [gA,gB,gC]); rfl) (by exact fun _ _ _ h => h) (by rfl) (by intro w'; go_simp; try with_reducible rfl) ?_
          try simp only [Act.put, pA,pB,pC]
          refine RegP.pure1 (by (simp only [gA,gB,gC]); rfl) (by exact fun _ _ _ h => h) (by rfl) (by intro w'; go_simp; try with_reducible rfl) ?_
          try simp only [Act.put, pA,pB,pC]
          refine RegP.skip1 (by (simp only [gA,gB,gC]); rfl) (by exact fun _ _ _ h => h) (by rfl) ?_
          try simp only [Act.put, pA,pB,pC]
          refine RegP.skip1 (by (simp only [gA,gB,gC]); rfl) (by exact fun _ _ _ h => h) (by rfl) ?_
          try simp only [Act.put, pA,pB,pC]
          refine RegP.skip1 (by (simp only [gA,gB,gC]); rfl) (by exact fun _ _ _ h => h) (by rfl) ?_
          try simp only [Act.put, pA,pB,pC]
          refine RegP.skip1 (by (simp only [gA,gB,gC]); rfl) (by exact fun _ _ _ h => h) (by rfl) ?_
          try simp only [Act.put, pA,pB,pC]
          refine RegP.skip1 (by (simp only [gA,gB,gC]); rfl) (by exact fun _ _ _ h => h) (by rfl) ?_
          try simp only [Act.put, pA,pB,pC]
          refine RegP.skip1 (by (simp only [gA,gB,gC]); rfl) (by exact fun _ _ _ h => h) (by rfl) ?_
          try simp only [Act.put, pA,pB,pC]
          refine RegP.pure1 (by (simp only [gA,gB,gC]); rfl) (by exact fun _ _ _ h => h) (by rfl) (by intro w'; go_simp; try with_reducible rfl) ?_
          try simp only [Act.put, pA,pB,pC]
          refine RegP.ev1 (by (simp only [gA,gB,gC]); rfl) (fun K hK => ?_)
          go_simp
          refine (need_no _).mono ?_
          rintro e w3 ⟨rfl, rfl⟩
          exact ⟨rfl, Shapes.bad hNo.out hBt.out.drew⟩
        · have hd1 : decide ((k : Int) ≥ 1) = true := by rw [decide_eq_true_iff]; omega
          have hd2 : decide (1 ≤ (k : Int)) = true := by rw [decide_eq_true_iff]; omega
          have hn0i : (0 : Int) < (N : Int) := by omega
          have hn0 : 0 < N := by omega
          obtain ⟨ad, hA, k0⟩ := text_at hW.out 0 (by rw [hL.out]; omega)
          obtain ⟨v0, hv0⟩ : ∃ y, (w0 :: rest)[0]'(by rw [hL.out]; omega) = y := ⟨_, rfl⟩
          rw [hv0] at k0
          have e0 : ad.add 0 = ad := by simp [Addr.add]
          rw [e0] at k0
          have hv0l : v0.length ≤ 1000000 := by rw [← hv0]; exact hwl _ (List.getElem_mem _)
          have hgd : Hid ((w0 :: rest).getD 0 [] = v0) := by
            show _ = _
            rw [List.getD_eq_getElem?_getD, List.getElem?_eq_getElem (by rw [hL.out]; omega), hv0]; rfl
          subst hA
          have hS5 : Hid ((w1.drew).cell? ad = some (.string (B v0))) := k0
          have hRS : Hid (R = if verbB v0 = true then match outputsE ((w0 :: rest).drop (k + 1)) with
              | none => none
              | some od => if (decide (od.2 ≠ []) == decide (v0 = kInc)) = true then some ⟨v0, ((w0 :: rest).take k).drop 1, false, od.1, od.2⟩ else none
            else none) := by
            show R = _
            rw [hRR.out, shapeW, hk]
            obtain ⟨k', rfl⟩ : ∃ k', k = k' + 1 := ⟨k - 1, by omega⟩
            simp only [hgd.out]
            rfl
          clear hRR hk hv0 hgd e0 k0
          go_wp2_with fail
          refine RegP.regionH (fun w' => w'.cell? ad = some (.string (B v0))) [(0, 0), (0, 1), (0, 2), (0, 4), (0, 5), (1, 6), (2, 3), (2, 7), (0, 8), (0, 9), (2, 10)] (by kernel_rfl) (by kernel_rfl) (by rfl) (by kernel_rfl) (by exact hS5.out) ?_
          refine RegP.pure1 (by (simp only [gA,gB,gC]); rfl) (by exact fun _ _ _ h => h) (by rfl) (by intro w'; go_simp; try with_reducible rfl) ?_
          try simp only [Act.put, pA,pB,pC]
          refine RegP.pure1 (by (simp only [gA,gB,gC]); rfl) (by exact fun _ _ _ h => h) (by rfl) (by intro w'; go_simp; try with_reducible rfl) ?_
          try simp only [Act.put, pA,pB,pC]
          refine RegP.pure1 (by (simp only [gA,gB,gC]); rfl) (by exact fun _ _ _ h => h) (by rfl) (by intro w'; go_simp; try with_reducible rfl) ?_
          try simp only [Act.put, pA,pB,pC]
          refine RegP.pure1 (by (simp only [gA,gB,gC]); rfl) (by exact fun _ _ _ h => h) (by rfl) (by intro w'; go_simp; try with_reducible rfl) ?_
          try simp only [Act.put, pA,pB,pC]
          refine RegP.pure1 (by (simp only [gA,gB,gC]); rfl) (by exact fun _ _ _ h => h) (by rfl) (by intro w'; go_simp; try with_reducible rfl) ?_
          try simp only [Act.put, pA,pB,pC]
          refine RegP.held1 (by (simp only [gA,gB,gC]); rfl) (by exact fun _ _ _ h => h) (by rfl) (by intro w' hS_; (try dsimp only at hS_); go_split_ands; go_simp; try with_reducible rfl) ?_
          try simp only [Act.put, pA,pB,pC]
          refine RegP.ev1 (by (simp only [gA,gB,gC]); rfl) (fun K hK => ?_)
          go_simp
          refine (verbs_any _).mono ?_
          rintro e w3 ⟨rfl, hM, hb3⟩
          have hB3 := Lib.hid (hBt.out.drew.trans (hb3.mono hBt.out.drew.size))
          have hW3 := Lib.hid (Kd.C_below (Kd.C_below hW.out ((Below.refl _ _).drew)) hb3)
          have hS6 : Hid (w3.cell? ad = some (.string (B v0))) := below_cell hb3 hS5.out
          have hlk : (Instr.lookup 54 (.map (some w1.heap.size)) (.string (B v0)) false).run Tryd.prog w3 = .ok ((verbF v0).getD .nilFunc) w3 := hM.look (t := 54) Tryd.underlying54 (zero_verb w3) v0 (by unfold maxLen; omega)
          have hnv := neq_verb v0
          have heg := eqg_verb v0
          clear hM hb3 hS5
          generalize (verbF v0).getD .nilFunc = vf at *
          refine hK.out _ _ ?_ (fun hHeld => ?_)
          · (try dsimp only); exact hS6.out
          clear hK K
          try simp only [Act.put, pA,pB,pC]
          refine RegP.ev1 (by (simp only [gA,gB,gC]); rfl) (fun K hK => ?_)
          go_simp
          refine hK.out _ _ ?_ (fun hHeld => ?_)
          · (try dsimp only); exact hS6.out
          clear hK K
          try simp only [Act.put, pA,pB,pC]
          refine RegP.pure1 (by (simp only [gA,gB,gC]); rfl) (by exact fun _ _ _ h => h) (by rfl) (by intro w'; go_simp; try with_reducible rfl) ?_
          try simp only [Act.put, pA,pB,pC]
          refine RegP.pure1 (by (simp only [gA,gB,gC]); rfl) (by exact fun _ _ _ h => h) (by rfl) (by intro w'; go_simp; try with_reducible rfl) ?_
          try simp only [Act.put, pA,pB,pC]
          refine RegP.ev1 (by (simp only [gA,gB,gC]); rfl) (fun K hK => ?_)
          go_simp
          cases hvb : verbB v0 with
          | false =>
            refine (need_no _).mono ?_
            rintro e w4 ⟨rfl, rfl⟩
            exact ⟨rfl, Shapes.bad (by rw [hRS.out, hvb]; rfl) hB3.out⟩
          | true =>
            refine (need_yes _).mono ?_
            rintro e w4 ⟨rfl, rfl⟩
            refine hK.out _ _ ?_ (fun hHeld => ?_)
            · (try dsimp only); exact hS6.out
            clear hK K
            try simp only [Act.put, pA,pB,pC]
            refine RegP.done1 ?_
            clear hHeld
            try dsimp only
            clear hnv hlk heg
            have hRT : Hid (R = match outputsE ((w0 :: rest).drop (k + 1)) with
                | none => none
                | some od => if (decide (od.2 ≠ []) == decide (v0 = kInc)) = true then some ⟨v0, ((w0 :: rest).take k).drop 1, false, od.1, od.2⟩ else none) := by
              show R = _
              rw [hRS.out, hvb]; rfl
            have hj0 : (0 : Int) ≤ (k : Int) + 1 := by omega
            have hj1 : (k : Int) + 1 ≤ (N : Int) := by omega
            have hj2 : (1 : Int) ≤ (k : Int) := by omega
            have hj3 : (k : Int) ≤ (N : Int) := by omega
            have hwr : IntKind.i64.wrap ((k : Int) + 1) = (k : Int) + 1 := by rw [IntKind.wrap_i64]; omega
            have hDL : Hid (((w0 :: rest).drop (k + 1)).length = N - (k + 1)) := by show _ = _; rw [List.length_drop, hL.out]
            obtain ⟨A6, hA6⟩ : ∃ A6, A6 = if N = k + 1 then some ad else (some ad).map (·.add (k + 1)) := ⟨_, rfl⟩
            have hC6 : Hid (Kd.C Kd.string w3 A6 (N - (k + 1)) (((w0 :: rest).drop (k + 1)).map B)) := by
              have := words_drop (c := N) hW3.out (by rw [hL.out]; exact hle2) (k + 1) (by rw [hL.out]; omega)
              rw [hL.out, ← hA6] at this
              exact this
            have hcut6 : ∀ W : World, (Instr.slice 32 (.slice (some ad) N N) (some (.int .i64 ((k : Int) + 1))) none none).run Tryd.prog W = .ok (.slice A6 (N - (k + 1)) (N - (k + 1))) W := fun W => by
              have := cut_from 32 9 .i64 Tryd.underlying32 hinf 1 hz1 (some ad) N N ((k : Int) + 1) hj0 hj1 W
              rw [show ((k : Int) + 1).toNat = k + 1 by omega, map_add, ← hA6] at this
              exact this
            obtain ⟨A8, hA8⟩ : ∃ A8, A8 = if N = 1 then some ad else (some ad).map (·.add 1) := ⟨_, rfl⟩
            have hC8 : Hid (Kd.C Kd.string w3 A8 (k - 1) ((((w0 :: rest).take k).drop 1).map B)) := by
              have := words_mid (c := N) hW3.out (by rw [hL.out]; exact hle2) k (by rw [hL.out]; omega) (by omega)
              rw [← hA8] at this
              exact this
            have hcut8 : ∀ W : World, (Instr.slice 32 (.slice (some ad) N N) (some (.int .i64 1)) (some (.int .i64 (k : Int))) none).run Tryd.prog W = .ok (.slice A8 (k - 1) (N - 1)) W := fun W => by
              have := cut_mid 32 9 .i64 .i64 Tryd.underlying32 hinf 1 hz1 (some ad) N N 1 (k : Int) (by omega) hj2 hj3 hle2 W
              rw [show ((1 : Int)).toNat = 1 from rfl, show ((k : Int)).toNat = k by omega, map_add, ← hA8] at this
              exact this
            have hO := outputs_any A6 (N - (k + 1)) ((w0 :: rest).drop (k + 1)) w3 (by rw [hDL.out]; exact hC6.out) (by rw [hDL.out]; omega) (by rw [hDL.out]; omega)
            rw [hDL.out] at hO
            have hAL : Hid ((((w0 :: rest).take k).drop 1).length = k - 1) := take1_len (w0 :: rest) k (by rw [hL.out]; omega)
            have hOH := Lib.hid hO
            clear hO hRS hC6 hA6 hA8 hDL
            generalize ((w0 :: rest).take k).drop 1 = args at *
            generalize outputsE ((w0 :: rest).drop (k + 1)) = ro at *
            go_wp2_with fail
            refine hOH.out.mono ?_
            rintro e w5 ⟨hb5, hP⟩
            have hB5 := Lib.hid (hB3.out.trans (hb5.mono hB3.out.size))
            have hS8 : Hid (w5.drew.cell? ad = some (.string (B v0))) := below_cell hb5.drew hS6.out
            have hC8' := Lib.hid (Kd.C_below hC8.out hb5.drew)
            clear hcut6 hOH hwr hC8
            cases ro with
            | none =>
              obtain rfl : e = fl := hP
              exact ⟨rfl, Shapes.bad hRT.out hB5.out⟩
            | some od =>
              obtain ⟨outs, dep⟩ := od
              obtain ⟨c2, rfl, hl2, hC2⟩ := hP
              have hC2' := Lib.hid (Kd.C_below hC2 (Below.refl w5.heap.size w5).drew)
              have hl2' := Lib.hid hl2
              have hk0 : w5.cell? ad = some (.string (B v0)) := hS8.out
              clear hb5 hC2 hl2
              dsimp only at *
              cases hvi : (v0 == [105, 110, 99]) with
              | false =>
                have hvk : Hid (v0 ≠ kInc) := beq_eq_false_iff_ne.1 hvi
                cases dep with
                | nil =>
                  have hRU : Hid (R = some ⟨v0, args, false, outs, []⟩) := by
                    show R = _
                    rw [hRT.out]; simp [hvk.out] <;> exact hvk.out.symm
                  go_wp2_with fail
                  refine (need_yes _).mono ?_
                  rintro e w6 ⟨rfl, rfl⟩
                  go_wp2_with fail
                  refine RegP.regionH (fun w' => w'.cell? ad = some (.string (B v0))) [(0, 0), (0, 1), (1, 2), (0, 3), (0, 4), (0, 5), (0, 6), (0, 7), (0, 8), (0, 9), (0, 10), (0, 11), (0, 12), (0, 13)] (by kernel_rfl) (by kernel_rfl) (by rfl) (by kernel_rfl) (by exact hS8.out) ?_
                  refine RegP.pure1 (by (simp only [gA,gB,gC]); rfl) (by exact fun _ _ _ h => h) (by rfl) (by intro w'; go_simp; try with_reducible rfl) ?_
                  try simp only [Act.put, pA,pB,pC]
                  refine RegP.pure1 (by (simp only [gA,gB,gC]); rfl) (by exact fun _ _ _ h => h) (by rfl) (by intro w'; go_simp; try with_reducible rfl) ?_
                  try simp only [Act.put, pA,pB,pC]
                  refine RegP.held1 (by (simp only [gA,gB,gC]); rfl) (by exact fun _ _ _ h => h) (by rfl) (by intro w' hS_; (try dsimp only at hS_); go_split_ands; go_simp; try with_reducible rfl) ?_
                  try simp only [Act.put, pA,pB,pC]
                  refine RegP.pure1 (by (simp only [gA,gB,gC]); rfl) (by exact fun _ _ _ h => h) (by rfl) (by intro w'; go_simp; try with_reducible rfl) ?_
                  try simp only [Act.put, pA,pB,pC]
                  refine RegP.pure1 (by (simp only [gA,gB,gC]); rfl) (by exact fun _ _ _ h => h) (by rfl) (by intro w'; go_simp; try with_reducible rfl) ?_
                  try simp only [Act.put, pA,pB,pC]
                  refine RegP.pure1 (by (simp only [gA,gB,gC]); rfl) (by exact fun _ _ _ h => h) (by rfl) (by intro w'; go_simp; try with_reducible rfl) ?_
                  try simp only [Act.put, pA,pB,pC]
                  refine RegP.pure1 (by (simp only [gA,gB,gC]); rfl) (by exact fun _ _ _ h => h) (by rfl) (by intro w'; go_simp; try with_reducible rfl) ?_
                  try simp only [Act.put, pA,pB,pC]
                  refine RegP.pure1 (by (simp only [gA,gB,gC]); rfl) (by exact fun _ _ _ h => h) (by rfl) (by intro w'; go_simp; try with_reducible rfl) ?_
                  try simp only [Act.put, pA,pB,pC]
                  refine RegP.pure1 (by (simp only [gA,gB,gC]); rfl) (by exact fun _ _ _ h => h) (by rfl) (by intro w'; go_simp; try with_reducible rfl) ?_
                  try simp only [Act.put, pA,pB,pC]
                  refine RegP.pure1 (by (simp only [gA,gB,gC]); rfl) (by exact fun _ _ _ h => h) (by rfl) (by intro w'; go_simp; try with_reducible rfl) ?_
                  try simp only [Act.put, pA,pB,pC]
                  refine RegP.pure1 (by (simp only [gA,gB,gC]); rfl) (by exact fun _ _ _ h => h) (by rfl) (by intro w'; go_simp; try with_reducible rfl) ?_
                  try simp only [Act.put, pA,pB,pC]
                  refine RegP.pure1 (by (simp only [gA,gB,gC]); rfl) (by exact fun _ _ _ h => h) (by rfl) (by intro w'; go_simp; try with_reducible rfl) ?_
                  try simp only [Act.put, pA,pB,pC]
                  refine RegP.pure1 (by (simp only [gA,gB,gC]); rfl) (by exact fun _ _ _ h => h) (by rfl) (by intro w'; go_simp; try with_reducible rfl) ?_
                  try simp only [Act.put, pA,pB,pC]
                  refine RegP.pure1 (by (simp only [gA,gB,gC]); rfl) (by exact fun _ _ _ h => h) (by rfl) (by intro w'; go_simp; try with_reducible rfl) ?_
                  try simp only [Act.put, pA,pB,pC]
                  refine RegP.done1 ?_
                  try dsimp only
                  go_wp2_with fail
                  rw [hRU.out]
                  refine bodyPost_ret (v := .tuple #[.string (B v0), .slice A8 (k - 1) (N - 1), .bool false, .slice A6 outs.length c2, .string (B [])]) (by simp [results, Tryd.results18, go_sem]) rfl ⟨hB5.out.drew, A8, N - 1, A6, c2, ?_, ?_, ?_, hl2'.out, hC2'.out⟩
                  · show _ = Ending.returned (.tuple #[_, .slice _ args.length _, _, _, _])
                    rw [hAL.out]
                  · show args.length ≤ _
                    rw [hAL.out]; omega
                  · show Kd.C _ _ _ args.length _
                    rw [hAL.out]; exact hC8'.out
                | cons d0 ds =>
                  go_wp2_with fail
                  refine (need_no _).mono ?_
                  rintro e w6 ⟨rfl, rfl⟩
                  exact ⟨rfl, Shapes.bad (by rw [hRT.out]; simp [hvk.out]) hB5.out⟩
              | true =>
                have hvk : Hid (v0 = kInc) := beq_iff_eq.1 hvi
                cases dep with
                | nil =>
                  go_wp2_with fail
                  refine (need_no _).mono ?_
                  rintro e w6 ⟨rfl, rfl⟩
                  exact ⟨rfl, Shapes.bad (by rw [hRT.out]; simp [hvk.out]) hB5.out⟩
                | cons d0 ds =>
                  have hRU : Hid (R = some ⟨v0, args, false, outs, (d0 :: ds)⟩) := by
                    show R = _
                    rw [hRT.out]; simp [hvk.out] <;> exact hvk.out.symm
                  go_wp2_with fail
                  refine (need_yes _).mono ?_
                  rintro e w6 ⟨rfl, rfl⟩
                  go_wp2_with fail
                  refine RegP.regionH (fun w' => w'.cell? ad = some (.string (B v0))) [(0, 0), (0, 1), (1, 2), (0, 3), (0, 4), (0, 5), (0, 6), (0, 7), (0, 8), (0, 9), (0, 10), (0, 11), (0, 12), (0, 13)] (by kernel_rfl) (by kernel_rfl) (by rfl) (by kernel_rfl) (by exact hS8.out) ?_
                  refine RegP.pure1 (by (simp only [gA,gB,gC]); rfl) (by exact fun _ _ _ h => h) (by rfl) (by intro w'; go_simp; try with_reducible rfl) ?_
                  try simp only [Act.put, pA,pB,pC]
                  refine RegP.pure1 (by (simp only [gA,gB,gC]); rfl) (by exact fun _ _ _ h => h) (by rfl) (by intro w'; go_simp; try with_reducible rfl) ?_
                  try simp only [Act.put, pA,pB,pC]
                  refine RegP.held1 (by (simp only [gA,gB,gC]); rfl) (by exact fun _ _ _ h => h) (by rfl) (by intro w' hS_; (try dsimp only at hS_); go_split_ands; go_simp; try with_reducible rfl) ?_
                  try simp only [Act.put, pA,pB,pC]
                  refine RegP.pure1 (by (simp only [gA,gB,gC]); rfl) (by exact fun _ _ _ h => h) (by rfl) (by intro w'; go_simp; try with_reducible rfl) ?_
                  try simp only [Act.put, pA,pB,pC]
                  refine RegP.pure1 (by (simp only [gA,gB,gC]); rfl) (by exact fun _ _ _ h => h) (by rfl) (by intro w'; go_simp; try with_reducible rfl) ?_
                  try simp only [Act.put, pA,pB,pC]
                  refine RegP.pure1 (by (simp only [gA,gB,gC]); rfl) (by exact fun _ _ _ h => h) (by rfl) (by intro w'; go_simp; try with_reducible rfl) ?_
                  try simp only [Act.put, pA,pB,pC]
                  refine RegP.pure1 (by (simp only [gA,gB,gC]); rfl) (by exact fun _ _ _ h => h) (by rfl) (by intro w'; go_simp; try with_reducible rfl) ?_
                  try simp only [Act.put, pA,pB,pC]
                  refine RegP.pure1 (by (simp only [gA,gB,gC]); rfl) (by exact fun _ _ _ h => h) (by rfl) (by intro w'; go_simp; try with_reducible rfl) ?_
                  try simp only [Act.put, pA,pB,pC]
                  refine RegP.pure1 (by (simp only [gA,gB,gC]); rfl) (by exact fun _ _ _ h => h) (by rfl) (by intro w'; go_simp; try with_reducible rfl) ?_
                  try simp only [Act.put, pA,pB,pC]
                  refine RegP.pure1 (by (simp only [gA,gB,gC]); rfl) (by exact fun _ _ _ h => h) (by rfl) (by intro w'; go_simp; try with_reducible rfl) ?_
                  try simp only [Act.put, pA,pB,pC]
                  refine RegP.pure1 (by (simp only [gA,gB,gC]); rfl) (by exact fun _ _ _ h => h) (by rfl) (by intro w'; go_simp; try with_reducible rfl) ?_
                  try simp only [Act.put, pA,pB,pC]
                  refine RegP.pure1 (by (simp only [gA,gB,gC]); rfl) (by exact fun _ _ _ h => h) (by rfl) (by intro w'; go_simp; try with_reducible rfl) ?_
                  try simp only [Act.put, pA,pB,pC]
                  refine RegP.pure1 (by (simp only [gA,gB,gC]); rfl) (by exact fun _ _ _ h => h) (by rfl) (by intro w'; go_simp; try with_reducible rfl) ?_
                  try simp only [Act.put, pA,pB,pC]
                  refine RegP.pure1 (by (simp only [gA,gB,gC]); rfl) (by exact fun _ _ _ h => h) (by rfl) (by intro w'; go_simp; try with_reducible rfl) ?_
                  try simp only [Act.put, pA,pB,pC]
                  refine RegP.done1 ?_
                  try dsimp only
                  go_wp2_with fail
                  rw [hRU.out]
                  refine bodyPost_ret (v := .tuple #[.string (B v0), .slice A8 (k - 1) (N - 1), .bool false, .slice A6 outs.length c2, .string (B (d0 :: ds))]) (by simp [results, Tryd.results18, go_sem]) rfl ⟨hB5.out.drew, A8, N - 1, A6, c2, ?_, ?_, ?_, hl2'.out, hC2'.out⟩
                  · show _ = Ending.returned (.tuple #[_, .slice _ args.length _, _, _, _])
                    rw [hAL.out]
                  · show args.length ≤ _
                    rw [hAL.out]; omega
                  · show Kd.C _ _ _ args.length _
                    rw [hAL.out]; exact hC8'.out
end Go.Proofs.YtbklhcjcgiblkaaDoor.Ck
end
section
set_option linter.unusedSimpArgs false
set_option linter.unusedVariables false
namespace Go.Proofs.YtbklhcjcgiblkaaDoor.Ck
open Go.RowKit Go.Lib Go.Shelf Go.Maps Go.Proofs.YtbklhcjcgiblkaaDoorW.PrintWords Go.Proofs.YtbklhcjcgiblkaaDoorW.PrintLast Go.Proofs.YtbklhcjcgiblkaaDoorW.PrintMore Go.Proofs.YtbklhcjcgiblkaaDoor.U Go.Proofs.YtbklhcjcgiblkaaDoor.P Go.Proofs.YtbklhcjcgiblkaaDoor.PTh Go.Proofs.YtbklhcjcgiblkaaDoor.MapV
open Go.Proofs.YtbklhcjcgiblkaaDoor.Fld (fieldsT)
def ocells (f : Nat → Value) : Nat → List Txt → List Value
  | _, [] => []
  | k, n :: ns => [.string (B n), f k] ++ ocells f (k + 1) ns
theorem ocells_len (f : Nat → Value) : ∀ (l : List Txt) (k : Nat), (ocells f k l).length = l.length * 2
  | [], k => rfl
  | x :: l, k => by simp only [ocells, List.length_append, ocells_len f l (k + 1), List.length_cons, List.length_nil]; omega
theorem ocells_append (f : Nat → Value) : ∀ (l : List Txt) (k : Nat) (n : Txt), ocells f k (l ++ [n]) = ocells f k l ++ [.string (B n), f (k + l.length)]
  | [], k, n => by simp [ocells]
  | x :: l, k, n => by
    simp only [List.cons_append, ocells, ocells_append f l (k + 1) n, List.length_cons, List.append_assoc]
    rw [show k + 1 + l.length = k + (l.length + 1) by omega]
theorem ocells_ext (f g : Nat → Value) : ∀ (l : List Txt) (k : Nat), (∀ j, k ≤ j → j < k + l.length → f j = g j) → ocells f k l = ocells g k l
  | [], k, h => rfl
  | x :: l, k, h => by
    simp only [ocells]
    rw [h k (Nat.le_refl _) (by simp), ocells_ext f g l (k + 1) (fun j h1 h2 => h j (by omega) (by simp; omega))]
theorem ocells_at (f : Nat → Value) : ∀ (l : List Txt) (k j : Nat) (h : j < l.length), ((ocells f k l).drop (j * 2)).take 2 = [.string (B l[j]), f (k + j)]
  | [], k, j, h => absurd h (by simp)
  | x :: l, k, 0, h => by simp [ocells]
  | x :: l, k, j + 1, h => by
    have := ocells_at f l (k + 1) j (by simpa using h)
    rw [show k + 1 + j = k + (j + 1) by omega] at this
    simp only [List.getElem_cons_succ]
    rw [← this, ocells, show (j + 1) * 2 = 2 + j * 2 by omega, ← List.drop_drop]
    rfl
def OutsAt (w : World) (base : Nat) (v : Value) (names : List Txt) (b : Txt) : Prop :=
  ∃ f : Nat → Value, w.ownsRow base 39 2 v names.length (ocells f 0 names) ∧ ∀ j, j < names.length → w.ownsRow base 5 1 (f j) b.length (bcells b)
theorem OutsAt.nil (w : World) (base : Nat) (b : Txt) : OutsAt w base (.slice none 0 0) [] b := ⟨fun _ => undef, World.ownsRow_nil _ _ _ _, fun j h => absurd h (by simp)⟩
theorem OutsAt.form {w : World} {base : Nat} {v : Value} {names : List Txt} {b : Txt} (h : OutsAt w base v names b) : ∃ A c, v = .slice A names.length c := by
  obtain ⟨f, ho, _⟩ := h
  rcases ho.2 with ⟨e, hz⟩ | ⟨g, cap, cur, e, _⟩
  · exact ⟨none, 0, by rw [e, hz]⟩
  · exact ⟨_, _, e⟩
theorem OutsAt.move {w w' : World} {base : Nat} {v : Value} {names : List Txt} {b : Txt} (h : OutsAt w base v names b) (hk : ∀ k, base ≤ k → k < w.heap.size → w'.heap[k]? = w.heap[k]?) : OutsAt w' base v names b := by
  obtain ⟨f, ho, hr⟩ := h
  exact ⟨f, own_move ho (fun k e => hk k (own_base ho k e) (own_lt ho k e)), fun j hj => own_move (hr j hj) (fun k e => hk k (own_base (hr j hj) k e) (own_lt (hr j hj) k e))⟩
theorem OutsAt.push {w w4 w8 : World} {base : Nat} {v v4 v8 : Value} {names : List Txt} {nm b : Txt} (h : OutsAt w base v names b) (hb : Below w.heap.size w w4) (h4 : w4.ownsRow base 5 1 v4 b.length (bcells b)) (hg : w4.grownBy w8 v.ownBlock)
    (h8 : ∀ inner, w4.ownsRow base 39 2 v names.length inner → inner.length = names.length * 2 → (∀ f : Nat → Value, inner = ocells f 0 names → w8.ownsRow base 39 2 v8 (names.length + 1) (inner ++ [.string (B nm), v4]))) : OutsAt w8 base v8 (names ++ [nm]) b := by
  obtain ⟨f, ho, hr⟩ := h
  have ho4 := own_move (w1 := w4) ho (fun k e => hb.block k (own_lt ho k e))
  have hne : ∀ (v' : Value), w4.ownsRow base 5 1 v' b.length (bcells b) → ∀ k, v'.ownBlock = some k → some k ≠ v.ownBlock := fun v' h' k e e2 => by
    obtain ⟨cs, e1⟩ := own_typed ho4 k e2.symm
    obtain ⟨cs2, e2⟩ := own_typed h' k e
    rw [e1] at e2
    injection e2 with e2
    injection e2 with _ e2 _
    exact absurd e2 (by decide)
  let f' : Nat → Value := fun j => if j < names.length then f j else v4
  have hf : ocells f' 0 names = ocells f 0 names := ocells_ext _ _ _ _ (fun j _ h2 => by simp only [f']; rw [if_pos (by omega)])
  refine ⟨f', ?_, fun j hj => ?_⟩
  · have := h8 _ ho4 (ocells_len _ _ _) f rfl
    rw [ocells_append, hf, List.length_append]
    have e : f' (0 + names.length) = v4 := by simp only [f']; rw [if_neg (by omega)]
    rw [e]
    exact this
  · by_cases h1 : j < names.length
    · have e : f' j = f j := by simp only [f']; rw [if_pos h1]
      rw [e]
      have h' := own_move (w1 := w4) (hr j h1) (fun k e => hb.block k (own_lt (hr j h1) k e))
      exact own_move h' (fun k e => hg.block k (own_lt h' k e) (hne _ h' k e))
    · have e : f' j = v4 := by simp only [f']; rw [if_neg h1]
      rw [e]
      exact own_move h4 (fun k e => hg.block k (own_lt h4 k e) (hne _ h4 k e))
theorem OutsAt.C {w : World} {base : Nat} {v : Value} {names : List Txt} {b : Txt} (h : OutsAt w base v names b) : ∃ A c, v = .slice A (names.map fun n => toF ⟨n, b⟩).length c ∧ (names.map fun n => toF ⟨n, b⟩).length ≤ c ∧ Kd.C KF w A (names.map fun n => toF ⟨n, b⟩).length (names.map fun n => toF ⟨n, b⟩) := by
  obtain ⟨f, ho, hr⟩ := h
  refine OwnRow.reads (R := KF.K w) (e := 39) (base := base) ⟨ocells f 0 names, by rw [List.length_map]; exact ho, ?_, ?_⟩
  · rw [ocells_len, List.length_map]; rfl
  · intro j p hp
    rw [List.getElem?_map] at hp
    obtain ⟨x, hx, rfl⟩ := Option.map_eq_some_iff.1 hp
    obtain ⟨hj, rfl⟩ := List.getElem?_eq_some_iff.1 hx
    obtain ⟨A0, c0, e0, l0, g0⟩ := own_reads (hr j hj)
    have := ocells_at f names 0 j hj
    rw [Nat.zero_add, e0] at this
    rw [show List.take KF.sz (List.drop (j * KF.sz) (ocells f 0 names)) = _ from this]
    have hl : (toF ⟨names[j], b⟩).f1.length = b.length := ints_len b
    have := k39_mk w (toF ⟨names[j], b⟩) (A1 := A0) (c1 := c0) (by rw [hl]; exact l0) (by rw [hl]; exact g0)
    rw [hl] at this
    exact this
theorem scalar_but {α : Type} {enc : α → Value} {h1 : ∀ x, (enc x).oneCell' = true} {w w' : World} {db : Nat} {cs : Array Value} {t : TypeId} {A : Option Addr} {n : Nat} {xs : List α} (h : (Kd.scalar enc h1).C w A n xs) (hdb : w.heap[db]? = some (.cells cs t (0, 0)))
    (hcs : ∀ x ∈ xs, ∀ j : Nat, cs[j]? ≠ some (enc x)) (hb : But db w w') : (Kd.scalar enc h1).C w' A n xs := by
  refine ⟨h.1, h.2.1, fun hn => ?_⟩
  obtain ⟨ad, rfl, hc⟩ := h.2.2 hn
  refine ⟨ad, rfl, fun j p hj => ?_⟩
  obtain ⟨c, h1', hK, hv⟩ := hc j p hj
  refine ⟨c, h1', hK, fun i u hu => ?_⟩
  have hv' := hv i u hu
  have hK' : c = [enc p] := hK
  subst hK'
  have hu' : u = enc p := by
    cases i with
    | zero => injection hu with hu; exact hu.symm
    | succ i => simp at hu
  subst hu'
  by_cases hbk : (ad.add (j * (Kd.scalar enc h1).sz + i)).block = db
  · exfalso
    have hp := addr_plain hv'
    rw [hp] at hv'
    rw [hbk, cell_of_heap hdb] at hv'
    exact hcs p (List.mem_of_getElem? hj) _ hv'
  · exact (World.cell?_of_block (hb.same _ (World.block_lt_of_cell? w _ hv') hbk)).trans hv'
theorem shapeW_words {once : Bool} {ws : List Txt} {s : ShapeL} (h : shapeW once ws = some s) : (∀ a ∈ s.args, a ∈ ws) ∧ s.args.length ≤ ws.length ∧ s.outs.length ≤ ws.length ∧ verbB s.verb = true := by
  unfold shapeW at h
  split at h
  · cases h
  · cases h
  · rename_i k hk
    split at h
    · rename_i hv
      split at h
      · cases h
      · rename_i od ho
        split at h
        · injection h with h
          subst h
          refine ⟨fun a ha => List.mem_of_mem_take (List.mem_of_mem_drop ha), ?_, ?_, hv⟩
          · show ((ws.take (k + 1)).drop 1).length ≤ _
            rw [List.length_drop, List.length_take]; omega
          · show od.1.length ≤ _
            have hl : (ws.drop (k + 2)).length ≤ ws.length := by rw [List.length_drop]; omega
            refine Nat.le_trans ?_ hl
            unfold outputsE at ho
            split at ho
            · split at ho
              · split at ho
                · injection ho with ho; subst ho; show (List.take _ _).length ≤ _; rw [List.length_take]; omega
                · cases ho
              · cases ho
            · split at ho
              · injection ho with ho; subst ho; exact Nat.le_refl _
              · cases ho
        · cases h
    · cases h
theorem shapeE_words {c : Txt} {s : ShapeL} (h : shapeE c = some s) : (∀ a ∈ s.args, a ∈ fieldsT c) ∧ s.args.length ≤ (fieldsT c).length ∧ s.outs.length ≤ (fieldsT c).length ∧ verbB s.verb = true := by
  unfold shapeE at h
  split at h
  · rename_i hf
    have := shapeW_words h
    rw [hf]; exact this
  · rename_i w ws hf
    rw [hf]
    split at h
    · obtain ⟨h1, h2, h3, h4⟩ := shapeW_words h
      exact ⟨fun a ha => List.mem_cons_of_mem _ (h1 a ha), by rw [List.length_cons]; omega, by rw [List.length_cons]; omega, h4⟩
    · exact shapeW_words h
theorem Fld_short (cmd a : Txt) (h : a ∈ fieldsT cmd) : a.length ≤ cmd.length := fieldsGo_short cmd.length cmd [] (by simp) a h
end Go.Proofs.YtbklhcjcgiblkaaDoor.Ck
end
section
set_option linter.unusedSimpArgs false
set_option linter.unusedVariables false
namespace Go.Proofs.YtbklhcjcgiblkaaDoor.Ck
open Go.RowKit Go.Lib Go.Shelf Go.Maps Go.Proofs.YtbklhcjcgiblkaaDoorW.PrintWords Go.Proofs.YtbklhcjcgiblkaaDoorW.PrintLast Go.Proofs.YtbklhcjcgiblkaaDoorW.PrintMore Go.Proofs.YtbklhcjcgiblkaaDoor.U Go.Proofs.YtbklhcjcgiblkaaDoor.P Go.Proofs.YtbklhcjcgiblkaaDoor.PTh Go.Proofs.YtbklhcjcgiblkaaDoor.MapV
open Go.Proofs.YtbklhcjcgiblkaaDoor.Fld (fieldsT)
structure Given (w : World) (v : Env) (Ad Af : Option Addr) (cd cf : Nat) : Prop where
  rd : Kd.C Kd.string w Ad v.decl.length (v.decl.map B)
  rf : Kd.C KF w Af (v.fs.map toF).length (v.fs.map toF)
  nd : v.decl.length ≤ 100000
  nf : v.fs.length ≤ 100000
  lf : ∀ f ∈ v.fs, f.b.length ≤ 100000
theorem Given.below {w w' : World} {v : Env} {Ad Af : Option Addr} {cd cf : Nat} (h : Given w v Ad Af cd cf) (hb : Below w.heap.size w w') : Given w' v Ad Af cd cf := ⟨Kd.C_below h.rd hb, Kd.C_below h.rf hb, h.nd, h.nf, h.lf⟩
def Done (cmd : Txt) (v : Env) (W : World) (db : Nat) (w' : World) : Prop := But db W w' ∧ ∃ (names : List Txt) (b dep deps : Txt) (once : Bool) (vo : Value), cookE cmd v = some ⟨names.map fun n => ⟨n, b⟩, once, dep, deps⟩ ∧
  w'.heap[db]? = some (.cells #[vo, .bool once, .string (B dep), .string (B deps)] 34 (0, 0)) ∧ OutsAt w' W.heap.size vo names b
def Failed (cmd : Txt) (v : Env) (W : World) (db : Nat) (w' : World) : Prop := But db W w' ∧ cookE cmd v = none
theorem But.grow {o : Nat} {a b c : World} (h : But o a b) (k : Below a.heap.size b c) : But o a c := ⟨k.os.trans h.os, k.tape.trans h.tape, k.output.trans h.output, Nat.le_trans h.size k.size, fun i hi hne => (k.block i hi).trans (h.same i hi hne)⟩
theorem own_but {w w' : World} {base db e sz n : Nat} {v : Value} {xs : List Value} (h : w.ownsRow base e sz v n xs) (hb : But db w w') (hdb : db < base) : w'.ownsRow base e sz v n xs := own_move h (fun k e => hb.same k (own_lt h k e) (by have := own_base h k e; omega))
theorem OutsAt.weaken {w : World} {base base' : Nat} {v : Value} {names : List Txt} {b : Txt} (h : OutsAt w base v names b) (hb : base' ≤ base) : OutsAt w base' v names b := by
  obtain ⟨f, ho, hr⟩ := h
  exact ⟨f, own_weaken ho hb, fun j hj => own_weaken (hr j hj) hb⟩
theorem OutsAt.push2 {w4 w8 : World} {base : Nat} {v v4 v8 : Value} {names : List Txt} {nm b : Txt} {f : Nat → Value} (ho4 : w4.ownsRow base 39 2 v names.length (ocells f 0 names)) (hr : ∀ j, j < names.length → w4.ownsRow base 5 1 (f j) b.length (bcells b))
    (h4 : w4.ownsRow base 5 1 v4 b.length (bcells b)) (hg : w4.grownBy w8 v.ownBlock) (h8 : w8.ownsRow base 39 2 v8 (names.length + 1) (ocells f 0 names ++ [.string (B nm), v4])) : OutsAt w8 base v8 (names ++ [nm]) b := by
  have hne : ∀ (v' : Value), w4.ownsRow base 5 1 v' b.length (bcells b) → ∀ k, v'.ownBlock = some k → some k ≠ v.ownBlock := fun v' h' k e e2 => by
    obtain ⟨cs, e1⟩ := own_typed ho4 k e2.symm
    obtain ⟨cs2, e2⟩ := own_typed h' k e
    rw [e1] at e2
    injection e2 with e2
    injection e2 with _ e2 _
    exact absurd e2 (by decide)
  let f' : Nat → Value := fun j => if j < names.length then f j else v4
  have hf : ocells f' 0 names = ocells f 0 names := ocells_ext _ _ _ _ (fun j _ h2 => by simp only [f']; rw [if_pos (by omega)])
  refine ⟨f', ?_, fun j hj => ?_⟩
  · rw [ocells_append, hf, List.length_append]
    have e : f' (0 + names.length) = v4 := by simp only [f']; rw [if_neg (by omega)]
    rw [e]
    exact h8
  · by_cases h1 : j < names.length
    · have e : f' j = f j := by simp only [f']; rw [if_pos h1]
      rw [e]
      exact own_move (hr j h1) (fun k e => hg.block k (own_lt (hr j h1) k e) (hne _ (hr j h1) k e))
    · have e : f' j = v4 := by simp only [f']; rw [if_neg h1]
      rw [e]
      exact own_move h4 (fun k e => hg.block k (own_lt h4 k e) (hne _ h4 k e))
theorem OutsAt.mk0 {w : World} {base n i : Nat} {v : Value} {names : List Txt} {b : Txt} {f : Nat → Value} (h : OutsAt w base v names b) (hn : names.length = n) : ∃ f, w.ownsRow base 39 2 v n (ocells f 0 names) ∧ ∀ j, j < n → w.ownsRow base 5 1 (f j) b.length (bcells b) := by
  subst hn; exact h
theorem cells_no_text {once : Bool} {nm : Txt} (hne : nm ≠ []) (j : Nat) (h : (#[.slice none 0 0, .bool once, .string (B []), .string (B [])] : Array Value)[j]? = some (.string (B nm))) : False := by
  match j, h with
  | 0, h => simp at h
  | 1, h => simp at h
  | 2, h => simp at h; exact absurd h (by first | exact hne | exact fun e => hne e.symm)
  | 3, h => simp at h; exact absurd h (by first | exact hne | exact fun e => hne e.symm)
  | j + 4, h => simp at h
theorem cells_no_int {once : Bool} (x : Int) (j : Nat) (h : (#[.slice none 0 0, .bool once, .string (B []), .string (B [])] : Array Value)[j]? = some (.int .u8 x)) : False := by
  match j, h with
  | 0, h => simp at h
  | 1, h => simp at h
  | 2, h => simp at h
  | 3, h => simp at h
  | j + 4, h => simp at h
theorem told_ok {cmd : Txt} {v : Env} {W w' : World} {db o : Nat} (ho : W.heap[o]? = some (.cells #[.int .i64 0] 35 (0, 0))) (hne : o ≠ db) (h : Done cmd v W db w') : Told o (Done cmd v W db) (Failed cmd v W db) (.returned (.tuple #[])) w' :=
  ⟨(h.1.same o (Array.getElem?_eq_some_iff.1 ho).1 hne).trans ho, .inl ⟨rfl, h⟩⟩
theorem told_bad {cmd : Txt} {v : Env} {W w' : World} {db o : Nat} (h : cookE cmd v = none) (hb : But db W w') (ho : W.heap[o]? = some (.cells #[.int .i64 0] 35 (0, 0))) (hne : o ≠ db) : Told o (Done cmd v W db) (Failed cmd v W db) fl w' :=
  ⟨(hb.same o (Array.getElem?_eq_some_iff.1 ho).1 hne).trans ho, .inr ⟨rfl, hb, h⟩⟩
set_option maxRecDepth 100000 in
set_option maxHeartbeats 16000000 in
theorem cook1_any (cmd : Txt) (hl : cmd.length ≤ 10000) (v : Env) (Ad Af : Option Addr) (cd cf : Nat) (W : World) (hG : Given W v Ad Af cd cf) (ht : Tab W) (pc pd pf db o : Nat)
    (h1 : W.heap[pc]? = some (.cells #[.string (B cmd)] 9 (0, 0))) (h2 : W.heap[pd]? = some (.cells #[.slice Ad v.decl.length cd] 32 (0, 0))) (h3 : W.heap[pf]? = some (.cells #[.slice Af v.fs.length cf] 27 (0, 0)))
    (h4 : W.heap[db]? = some (.cells #[.slice none 0 0, .bool false, .string (B []), .string (B [])] 34 (0, 0))) (h5 : W.heap[o]? = some (.cells #[.int .i64 0] 35 (0, 0))) (hod : o ≠ db) :
    Calls Tryd.prog 17 #[at0 pc, at0 pd, at0 pf, at0 db] W (Told o (Done cmd v W db) (Failed cmd v W db)) := by
  have hE : Hid (cookE cmd v = match shapeE cmd with
    | none => none
    | some s => match doE v s.verb s.args with
      | none => none
      | some (b, found) => if b.length ≤ 65536 then some ⟨s.outs.map fun o => ⟨o, b⟩, s.once, s.dep, if s.dep = [] then [] else (printL (s.outs.getD 0 []) found).1⟩ else none) := rfl
  have c1 := (cell_of_heap (j := 0) h1).trans rfl
  have hGH := Lib.hid hG
  have htH := Lib.hid ht
  have h2H := Lib.hid h2
  have h3H := Lib.hid h3
  have h4H := Lib.hid h4
  have h5H := Lib.hid h5
  have hodH : Hid (o ≠ db) := hod
  obtain ⟨nd, hnd⟩ : ∃ n, v.decl.length = n := ⟨_, rfl⟩
  obtain ⟨nf, hnf⟩ : ∃ n, v.fs.length = n := ⟨_, rfl⟩
  have hndH := Lib.hid hnd
  have hnfH := Lib.hid hnf
  have hBad : Hid (∀ w', cookE cmd v = none → But db W w' → Told o (Done cmd v W db) (Failed cmd v W db) fl w') := fun w' h hb => told_bad h hb h5 hod
  have hGood : Hid (∀ w', Done cmd v W db w' → Told o (Done cmd v W db) (Failed cmd v W db) (.returned (.tuple #[])) w') := fun w' h => told_ok h5 hod h
  have hdbl : Hid (db < W.heap.size) := (Array.getElem?_eq_some_iff.1 h4).1
  clear h1 h2 h3 h4 h5 hG ht hod hnd hnf
  go_enter Tryd.func17, Tryd.ntmps17
  go_wp2_with fail
  refine (shape_any cmd (by omega) _).mono ?_
  rintro e W1 ⟨hb1, hP1⟩
  have hB1 := Lib.hid hb1
  cases hs : shapeE cmd with
  | none =>
    rw [hs] at hP1
    obtain rfl : e = fl := hP1
    exact ⟨rfl, hBad.out _ (by rw [hE.out, hs]) (But.of_below hb1)⟩
  | some s =>
    rw [hs] at hP1
    obtain ⟨A1, ca, A2, c2, rfl, hl1, hC1, hl2, hC2⟩ := hP1
    obtain ⟨verb, args, once, outs, dep⟩ := s
    dsimp only at *
    have hE2 : Hid (cookE cmd v = match doE v verb args with
      | none => none
      | some (b, found) => if b.length ≤ 65536 then some ⟨outs.map fun o => ⟨o, b⟩, once, dep, if dep = [] then [] else (printL (outs.getD 0 []) found).1⟩ else none) := by show _ = _; rw [hE.out, hs]
    obtain ⟨hw1, hw2, hw3, hvb⟩ : (∀ a ∈ args, a ∈ fieldsT cmd) ∧ args.length ≤ (fieldsT cmd).length ∧ outs.length ≤ (fieldsT cmd).length ∧ verbB verb = true := shapeE_words hs
    obtain ⟨hof, hdep⟩ : OutFacts outs dep ∧ (dep ≠ [] ↔ verb = kInc) := shapeE_facts hs
    have hfl := fieldsT_len cmd
    obtain ⟨K, hK0⟩ : ∃ K : CK, K = ⟨W1, A1, Ad, Af, ca, cd, cf, args, v⟩ := ⟨_, rfl⟩
    have hG1 := hGH.out.below hb1
    have hOk : K.Ok := by
      rw [hK0]
      exact ⟨hC1, hG1.rd, hG1.rf, by show args.length ≤ _; omega, hG1.nd, hG1.nf, hG1.lf, fun a ha => by have := Fld_short cmd a (hw1 a ha); omega, hl1⟩
    obtain ⟨g, hg1, hg2, hg3⟩ := verb_any K hOk verb hvb
    have hg3H := Lib.hid hg3
    have d2 := (cell_of_heap (j := 0) ((hb1.block _ (Array.getElem?_eq_some_iff.1 h2H.out).1).trans h2H.out)).trans rfl
    have d3 := (cell_of_heap (j := 0) ((hb1.block _ (Array.getElem?_eq_some_iff.1 h3H.out).1).trans h3H.out)).trans rfl
    rw [hndH.out] at d2
    rw [hnfH.out] at d3
    have hOut := Lib.hid hof
    have hDep := Lib.hid hdep
    have hol : outs.length ≤ 100000 := by omega
    have hC2H := Lib.hid hC2
    obtain ⟨na, hna⟩ : ∃ n, args.length = n := ⟨_, rfl⟩
    have hnaH := Lib.hid hna
    obtain ⟨no, hno⟩ : ∃ n, outs.length = n := ⟨_, rfl⟩
    have hnoH := Lib.hid hno
    have hK0H := Lib.hid hK0
    have hvs : verb.length ≤ 1000000 := by
      simp only [verbB, Bool.or_eq_true, beq_iff_eq] at hvb
      rcases hvb with ((((h | h) | h) | h) | h) | h <;> rw [h] <;> decide
    rw [hna, hno]
    clear hb1 hs hw1 hw2 hw3 hfl hG1 hC1 hC2 hl1 hg3 hof hdep hna hno hK0 c1 hE
    have hx2 : (W1.alloc (.cells #[.slice A1 na ca, .slice Ad nd cd, .slice Af nf cf, .slice none 0 0, .int .i64 0] 52)).heap[W1.heap.size]? = some (.cells #[.slice A1 na ca, .slice Ad nd cd, .slice Af nf cf, .slice none 0 0, .int .i64 0] 52 (0, 0)) := heap_alloc_new _ _
    have hb2 : Below W1.heap.size W1 (W1.alloc (.cells #[.slice A1 na ca, .slice Ad nd cd, .slice Af nf cf, .slice none 0 0, .int .i64 0] 52)) := (Below.refl _ _).alloc (Nat.le_refl _) _
    go_wp2_with fail
    generalize W1.alloc (.cells #[.slice A1 na ca, .slice Ad nd cd, .slice Af nf cf, .slice none 0 0, .int .i64 0] 52) = W2 at *
    have hKv : K.v = v := by rw [hK0H.out]
    have hKa : K.args = args := by rw [hK0H.out]
    have hKw : K.w0 = W1 := by rw [hK0H.out]
    have hAt2 : K.At W2 (.slice none 0 0) 0 := by
      refine ⟨?_, by rw [hKw]; exact hb2⟩
      rw [hKw, hKa, hKv, hnaH.out, hndH.out, hnfH.out, hK0H.out]
      exact hx2
    refine (verbs_any _).mono ?_
    rintro e W3 ⟨rfl, hM, hb3⟩
    have hlk : (Instr.lookup 54 (.map (some W2.heap.size)) (.string (B verb)) false).run Tryd.prog W3 = .ok (.func (.func g) #[] #[]) W3 := by
      rw [← hg1]; exact hM.look (t := 54) Tryd.underlying54 (zero_verb W3) verb (by unfold maxLen; omega)
    have hB3 : Below W.heap.size W W3 := hB1.out.trans ((hb2.trans (hb3.mono hb2.size)).mono hB1.out.size)
    have hcall := hg3H.out W3 (hAt2.below hb3) (htH.out.below hB3)
    rw [hKw, hKv, hKa] at hcall
    have hCall := Lib.hid hcall
    have hB3H := Lib.hid hB3
    have hKvH := Lib.hid hKv
    have hKwH := Lib.hid hKw
    have hB13 : Hid (Below W1.heap.size W1 W3) := hb2.trans (hb3.mono hb2.size)
    clear hM hb3 hcall hB3 hAt2 hx2 hb2 hKv hKa hKw d2 d3
    go_wp2_with fail
    refine hCall.out.mono ?_
    rintro e W4 ⟨hb4, hP4⟩
    rw [hKwH.out] at hb4
    have hB4 := Lib.hid (hB3H.out.trans (hb4.mono hB1.out.size))
    have hW14 : Hid (Below W1.heap.size W1 W4) := hB13.out.trans hb4
    clear hb4 hlk
    cases hd : doE v verb args with
    | none =>
      rw [hd] at hP4
      obtain rfl : e = fl := hP4
      exact ⟨rfl, hBad.out _ (by rw [hE2.out, hd]) (But.of_below hB4.out)⟩
    | some bf =>
      obtain ⟨b, found⟩ := bf
      rw [hd] at hP4
      obtain ⟨A, c, vf, m, rfl, hlc, hCb, hAt4, hfo, hfn⟩ := hP4
      dsimp only at hlc hCb hfo hfn
      have hE3 : Hid (cookE cmd v = if b.length ≤ 65536 then some ⟨outs.map fun o => ⟨o, b⟩, once, dep, if dep = [] then [] else (printL (outs.getD 0 []) found).1⟩ else none) := by show _ = _; rw [hE2.out, hd]
      obtain ⟨lb, hlb⟩ : ∃ n, b.length = n := ⟨_, rfl⟩
      have hlbH := Lib.hid hlb
      rw [hlb] at hlc hCb ⊢
      have hD4 := Lib.hid ((hB4.out.block _ (Array.getElem?_eq_some_iff.1 h4H.out).1).trans h4H.out)
      have hCbH := Lib.hid hCb
      have hAtH := Lib.hid hAt4
      have hfoH := Lib.hid hfo
      clear hlb hd hCb hAt4 hfo
      by_cases hle : lb ≤ 65536
      · have hd1 : decide ((lb : Int) ≤ 65536) = true := by rw [decide_eq_true_iff]; omega
        have hE4 : Hid (cookE cmd v = some ⟨outs.map fun o => ⟨o, b⟩, once, dep, if dep = [] then [] else (printL (outs.getD 0 []) found).1⟩) := by show _ = _; rw [hE3.out, if_pos (by rw [hlbH.out]; exact hle)]
        have e1 := (cell_of_heap (j := 1) hD4.out).trans rfl
        have f1 := frozen_of_heap hD4.out 1
        have hD5 := Lib.hid (blk_put hD4.out 1 (.bool once) rfl)
        have hBut45 : Hid (But db W4 (W4.setCell ⟨db, 1, none⟩ (.bool once))) := (But.refl _ _).set 1 _
        have hAlt := hfn
        have hNames : Hid (∀ w', But db W4 w' → Kd.C Kd.string w' A2 outs.length (outs.map B)) := fun w' hb => scalar_but (Kd.C_below hC2H.out hW14.out) hD4.out (fun x hx j h => by
          obtain ⟨nm, hnm, rfl⟩ := List.mem_map.1 hx
          have hne := right_ne (hOut.out.right nm hnm)
          exact cells_no_text hne j h) hb
        have hBytes : Hid (∀ w', But db W4 w' → (Kd.int .u8).C w' A b.length (ints b)) := fun w' hb => by have h1 := hCbH.out; rw [← hlbH.out] at h1; exact scalar_but h1 hD4.out (fun x hx j h => cells_no_int x j h) hb
        go_wp2_with fail
        refine (need_yes _).mono ?_
        rintro e W5 ⟨rfl, rfl⟩
        go_wp2_with fail
        obtain ⟨W5, hW5⟩ : ∃ x, W4.setCell ⟨db, 1, none⟩ (.bool once) = x := ⟨_, rfl⟩
        rw [hW5] at hD5 hBut45
        rw [hW5]
        clear hW5
        go_loopg [39] no (fun gk s39 wr => ∃ (i : Nat) (Ao : Option Addr) (co : Nat), s39 = .int .i64 (i : Int) ∧ i + gk = no ∧ Hid (wr.heap[db]? = some (.cells #[.slice Ao i co, .bool once, .string (B []), .string (B [])] 34 (0, 0))) ∧ Hid (OutsAt wr W4.heap.size (.slice Ao i co) (outs.take i) b) ∧ Hid (But db W4 wr))
        case atStart => exact ⟨0, none, 0, rfl, by omega, hD5, by show OutsAt _ _ _ _ _; exact OutsAt.nil _ _ _, hBut45⟩
        case round =>
          obtain ⟨i, Ao, co, rfl, hik, hD, hO, hBt⟩ := hrel
          cases gk with
          | zero =>
            obtain rfl : i = no := by omega
            have hlt : decide ((i : Int) < (i : Int)) = false := by rw [decide_eq_false_iff_not]; omega
            have hO' : Hid (OutsAt wr W4.heap.size (.slice Ao i co) outs b) := by
              have := hO.out
              rw [List.take_of_length_le (by rw [hnoH.out]; exact Nat.le_refl _)] at this
              exact this
            have hDeq : Hid (outs.map (fun o => (⟨o, b⟩ : FileL)) = outs.map fun o => ⟨o, b⟩) := rfl
            cases dep with
            | nil =>
              go_wp2_with fail
              go_end0
              refine hGood.out _ ⟨(But.of_below hB4.out).trans (hBt.out), outs, b, [], [], once, _, ?_, hD.out, hO'.out.weaken hB4.out.size⟩
              rw [hE4.out]; rfl
            | cons d0 ds =>
              have h5 := hD.out
              have e2 := (cell_of_heap (j := 2) hD.out).trans rfl
              have f2 := frozen_of_heap hD.out 2
              have hD6 := Lib.hid (blk_put hD.out 2 (.string (B (d0 :: ds))) rfl)
              have hBt6 : Hid (But db W4 (wr.setCell ⟨db, 2, none⟩ (.string (B (d0 :: ds))))) := hBt.out.set 2 _
              have hO6 : Hid (OutsAt (wr.setCell ⟨db, 2, none⟩ (.string (B (d0 :: ds)))) W4.heap.size (.slice Ao i co) outs b) := hO'.out.move (fun k h1 _ => Below.heap_setCell _ _ _ _ (by have h2 := hdbl.out; have h3 := hB4.out.size; show k ≠ db; omega))
              clear h5
              go_wp2_with fail
              generalize hW6 : wr.setCell ⟨db, 2, none⟩ (.string (B (d0 :: ds))) = W6 at *
              clear hW6 e2 f2 hO hD hO'
              have hno0 : 0 < outs.length := List.length_pos_iff.2 hOut.out.ne
              obtain ⟨ad, hA2, k0⟩ := text_at (hNames.out _ hBt6.out) 0 hno0
              obtain ⟨o0, ho0⟩ : ∃ y, outs[0] = y := ⟨_, rfl⟩
              rw [ho0] at k0
              have e0 : ad.add 0 = ad := by simp [Addr.add]
              rw [e0] at k0
              have hgd : Hid (outs.getD 0 [] = o0) := by
                show _ = _
                rw [List.getD_eq_getElem?_getD, List.getElem?_eq_getElem hno0, ho0]; rfl
              subst hA2
              have hcb : W6.heap[W1.heap.size]? = some (.cells #[.slice K.Aa K.args.length K.ca, .slice K.Ad K.v.decl.length K.cd, .slice K.Af K.v.fs.length K.cf, vf, .int .i64 m] 52 (0, 0)) := by
                have h1 := hAtH.out.h
                rw [hKwH.out] at h1
                exact (hBt6.out.same _ (Array.getElem?_eq_some_iff.1 h1).1 (by have h2 := hdbl.out; have h3 := hB1.out.size; omega)).trans h1
              have k3 := (cell_of_heap (j := 3) hcb).trans rfl
              have hfr : W6.ownsRow (W1.heap.size + 1) 9 1 vf found.length (strs found) := by
                have h1 := hfoH.out
                rw [hKwH.out] at h1
                exact own_but h1 hBt6.out (by have h2 := hdbl.out; have h3 := hB1.out.size; omega)
              obtain ⟨Av, cv, rfl, hlv, hCv⟩ := row_reads hfr
              have hS6 : Hid ((W6.drew).cell? ad = some (.string (B o0)) ∧ (W6.drew).cell? ⟨W1.heap.size, 3, none⟩ = some (.slice Av found.length cv)) := ⟨k0, k3⟩
              have hPr := Lib.hid (Print_any o0 Av cv found W6.drew (Kd.C_below hCv ((Below.refl _ _).drew)) hfn)
              have hno1 : (0 : Int) < (i : Int) := by have := hnoH.out; omega
              have hno2 : 0 < i := by omega
              have hBt7 : Hid (But db W4 W6.drew) := hBt6.out.trans ⟨rfl, rfl, rfl, Nat.le_refl _, fun _ _ _ => rfl⟩
              have hD7 : Hid (W6.drew.heap[db]? = some (.cells #[.slice Ao i co, .bool once, .string (B (d0 :: ds)), .string (B [])] 34 (0, 0))) := hD6.out
              have hO7 : Hid (OutsAt W6.drew W4.heap.size (.slice Ao i co) outs b) := hO6.out.move (fun _ _ _ => rfl)
              have hE5 : Hid (cookE cmd v = some ⟨outs.map fun o => ⟨o, b⟩, once, d0 :: ds, (printL o0 found).1⟩) := by show _ = _; rw [hE4.out, hgd.out]; rfl
              clear k0 k3 hcb hfr hCv e0 ho0 hBt6 hD6 hO6 hBt hno0
              generalize printL o0 found = pr at *
              go_wp2_with fail
              refine RegP.region (fun w' => w'.cell? ad = some (.string (B o0)) ∧ w'.cell? ⟨W1.heap.size, 3, none⟩ = some (.slice Av found.length cv)) 7 [(0, 0), (0, 1), (1, 2), (0, 3), (0, 4), (0, 5), (1, 6), (3, 7), (0, 8), (0, 9), (0, 10), (0, 11), (3, 12)] (by kernel_rfl) (by kernel_rfl) (by rfl) (by kernel_rfl) (by exact hS6.out) ?_
              refine RegP.pure1 (by (simp only [gA,gB,gC]); rfl) (by exact fun _ _ _ h => h) (by rfl) (by intro w'; go_simp; try with_reducible rfl) ?_
              try simp only [Act.put, pA,pB,pC]
              refine RegP.pure1 (by (simp only [gA,gB,gC]); rfl) (by exact fun _ _ _ h => h) (by rfl) (by intro w'; go_simp; try with_reducible rfl) ?_
              try simp only [Act.put, pA,pB,pC]
              refine RegP.held1 (by (simp only [gA,gB,gC]); rfl) (by exact fun _ _ _ h => h) (by rfl) (by intro w' hS_; (try dsimp only at hS_); go_split_ands; go_simp; try with_reducible rfl) ?_
              try simp only [Act.put, pA,pB,pC]
              refine RegP.pure1 (by (simp only [gA,gB,gC]); rfl) (by exact fun _ _ _ h => h) (by rfl) (by intro w'; go_simp; try with_reducible rfl) ?_
              try simp only [Act.put, pA,pB,pC]
              refine RegP.pure1 (by (simp only [gA,gB,gC]); rfl) (by exact fun _ _ _ h => h) (by rfl) (by intro w'; go_simp; try with_reducible rfl) ?_
              try simp only [Act.put, pA,pB,pC]
              refine RegP.pure1 (by (simp only [gA,gB,gC]); rfl) (by exact fun _ _ _ h => h) (by rfl) (by intro w'; go_simp; try with_reducible rfl) ?_
              try simp only [Act.put, pA,pB,pC]
              refine RegP.held1 (by (simp only [gA,gB,gC]); rfl) (by exact fun _ _ _ h => h) (by rfl) (by intro w' hS_; (try dsimp only at hS_); go_split_ands; go_simp; try with_reducible rfl) ?_
              try simp only [Act.put, pA,pB,pC]
              refine RegP.last1 (by (simp only [gA,gB,gC]); rfl) (fun K hK => ?_)
              go_simp
              refine hPr.out.mono ?_
              rintro e w7 ⟨rfl, hb7⟩
              have hD8 := Lib.hid ((hb7.block _ (Array.getElem?_eq_some_iff.1 hD7.out).1).trans hD7.out)
              have hBt8 := Lib.hid (hBt7.out.grow (hb7.mono hBt7.out.size))
              have hO8 := Lib.hid (hO7.out.move (w' := w7) (fun k _ h2 => hb7.block k h2))
              have k0 := (cell_of_heap (j := 3) hD8.out).trans rfl
              have kf0 := frozen_of_heap hD8.out 3
              clear hb7
              refine hK.out _ _ ?_
              clear hK K
              try simp only [Act.put, pA,pB,pC]
              refine RegP.pure1 (by (simp only [gA,gB,gC]); rfl) (by exact fun _ _ _ h => h) (by rfl) (by intro w'; go_simp; try with_reducible rfl) ?_
              try simp only [Act.put, pA,pB,pC]
              refine RegP.pure1 (by (simp only [gA,gB,gC]); rfl) (by exact fun _ _ _ h => h) (by rfl) (by intro w'; go_simp; try with_reducible rfl) ?_
              try simp only [Act.put, pA,pB,pC]
              refine RegP.pure1 (by (simp only [gA,gB,gC]); rfl) (by exact fun _ _ _ h => h) (by rfl) (by intro w'; go_simp; try with_reducible rfl) ?_
              try simp only [Act.put, pA,pB,pC]
              refine RegP.pure1 (by (simp only [gA,gB,gC]); rfl) (by exact fun _ _ _ h => h) (by rfl) (by intro w'; go_simp; try with_reducible rfl) ?_
              try simp only [Act.put, pA,pB,pC]
              refine RegP.last1 (by (simp only [gA,gB,gC]); rfl) (fun K hK => ?_)
              have hD9 := Lib.hid (blk_put hD8.out 3 (.string (B pr.1)) rfl)
              have hBt9 : Hid (But db W4 (w7.setCell ⟨db, 3, none⟩ (.string (B pr.1)))) := hBt8.out.set 3 _
              have hO9 : Hid (OutsAt (w7.setCell ⟨db, 3, none⟩ (.string (B pr.1))) W4.heap.size (.slice Ao i co) outs b) := hO8.out.move (fun k h1 _ => Below.heap_setCell _ _ _ _ (by have h2 := hdbl.out; have h3 := hB4.out.size; show k ≠ db; omega))
              go_simp
              generalize w7.setCell ⟨db, 3, none⟩ (.string (B pr.1)) = w9 at *
              refine hK.out _ _ ?_
              clear hK K
              try simp only [Act.put, pA,pB,pC]
              refine RegP.done1 ?_
              try dsimp only
              go_wp2_with fail
              go_end0
              exact hGood.out _ ⟨(But.of_below hB4.out).trans (hBt9.out), outs, b, d0 :: ds, pr.1, once, _, hE5.out, hD9.out, hO9.out.weaken hB4.out.size⟩
          | succ gk =>
            have hiN : i < outs.length := by rw [hnoH.out]; omega
            have hlt : decide ((i : Int) < (no : Int)) = true := by rw [decide_eq_true_iff]; omega
            obtain ⟨ad2, hA2, k0⟩ := text_at (hNames.out _ hBt.out) i hiN
            obtain ⟨nm, hnm⟩ : ∃ y, outs[i] = y := ⟨_, rfl⟩
            rw [hnm] at k0
            have hAA := Lib.hid hA2
            have hTk : Hid (outs.take (i + 1) = outs.take i ++ [nm]) := by show _ = _; rw [List.take_succ_eq_append_getElem hiN, hnm]
            have hTL : (outs.take i).length = i := by rw [List.length_take]; omega
            have hTLH := Lib.hid hTL
            obtain ⟨f, hof, hor⟩ := OutsAt.mk0 (i := 0) (f := fun _ => undef) hO.out hTL
            have hi0 : (0 : Int) ≤ (i : Int) := by omega
            have hi1 : (i : Int) < (no : Int) := by omega
            have hiN1 : i + 1 ≤ no := by omega
            have hno5 : no ≤ 100000 := by rw [← hnoH.out]; exact hol
            clear hA2 hnm hTL hiN
            obtain ⟨ad, rfl⟩ : ∃ ad, A2 = some ad := ⟨_, hAA.out⟩
            obtain rfl : ad = ad2 := by have := hAA.out; injection this
            have hofH : Hid (wr.drew.ownsRow W4.heap.size 39 2 (.slice Ao i co) i (ocells f 0 (outs.take i))) := hof
            have horH : Hid (∀ j, j < i → wr.drew.ownsRow W4.heap.size 5 1 (f j) b.length (bcells b)) := hor
            have hS0 : Hid (wr.drew.cell? ⟨db, 0, none⟩ = some (.slice Ao i co)) := (cell_of_heap (j := 0) hD.out).trans rfl
            have hDd : Hid (wr.drew.heap[db]? = some (.cells #[.slice Ao i co, .bool once, .string (B []), .string (B [])] 34 (0, 0))) := hD.out
            have hBd : Hid (But db W4 wr.drew) := hBt.out.trans ⟨rfl, rfl, rfl, Nat.le_refl _, fun _ _ _ => rfl⟩
            clear hof hor
            go_wp2_with fail
            refine RegP.region (fun w' => w'.cell? ⟨db, 0, none⟩ = some (.slice Ao i co)) 7 [(0, 0), (1, 1), (0, 2), (0, 3), (2, 4), (0, 5), (2, 6), (3, 7), (0, 8), (3, 9)] (by kernel_rfl) (by kernel_rfl) (by rfl) (by kernel_rfl) (by exact hS0.out) ?_
            generalize wr.drew = wd at *
            refine RegP.pure1 (by (simp only [gA,gB,gC]); rfl) (by exact fun _ _ _ h => h) (by rfl) (by intro w'; go_simp; try with_reducible rfl) ?_
            try simp only [Act.put, pA,pB,pC]
            refine RegP.held1 (by (simp only [gA,gB,gC]); rfl) (by exact fun _ _ _ h => h) (by rfl) (by intro w' hS_; (try dsimp only at hS_); go_split_ands; go_simp; try with_reducible rfl) ?_
            try simp only [Act.put, pA,pB,pC]
            refine RegP.pure1 (by (simp only [gA,gB,gC]); rfl) (by exact fun _ _ _ h => h) (by rfl) (by intro w'; go_simp; try with_reducible rfl) ?_
            try simp only [Act.put, pA,pB,pC]
            refine RegP.pure1 (by (simp only [gA,gB,gC]); rfl) (by exact fun _ _ _ h => h) (by rfl) (by intro w'; go_simp; try with_reducible rfl) ?_
            try simp only [Act.put, pA,pB,pC]
            refine RegP.ev1 (by (simp only [gA,gB,gC]); rfl) (fun K hK => ?_)
            go_simp
            have hCl := clone_any A c b wd (hBytes.out _ hBd.out) (by rw [hlbH.out]; omega)
            rw [hlbH.out] at hCl
            refine hCl.mono ?_
            rintro e w4 ⟨v4, rfl, ho4, hb4⟩
            have hS4 : Hid (w4.cell? ⟨db, 0, none⟩ = some (.slice Ao i co)) := below_cell hb4 hS0.out
            rw [← hlbH.out] at ho4
            obtain ⟨Aq, cq, rfl, _, _⟩ := own_reads ho4
            rw [hlbH.out]
            have hwl : W4.heap.size ≤ wd.heap.size := hBd.out.size
            have ho4H : Hid (w4.ownsRow W4.heap.size 5 1 (.slice Aq b.length cq) b.length (bcells b)) := own_weaken ho4 hwl
            have hof4 := Lib.hid (own_move hofH.out (w1 := w4) (fun k e => hb4.block k (own_lt hofH.out k e)))
            have hor4 : Hid (∀ j, j < i → w4.ownsRow W4.heap.size 5 1 (f j) b.length (bcells b)) := fun j hj => own_move (horH.out j hj) (fun k e => hb4.block k (own_lt (horH.out j hj) k e))
            have hD4b := Lib.hid ((hb4.block _ (Array.getElem?_eq_some_iff.1 hDd.out).1).trans hDd.out)
            have hBt4 := Lib.hid (hBd.out.grow (hb4.mono hwl))
            have hwl4 : W4.heap.size ≤ w4.heap.size := Nat.le_trans hwl hb4.size
            clear hCl ho4 hb4
            refine hK.out _ _ ?_ (fun hHeld => ?_)
            · (try dsimp only); exact hS4.out
            clear hK K
            try simp only [Act.put, pA,pB,pC]
            refine RegP.pure1 (by (simp only [gA,gB,gC]); rfl) (by exact fun _ _ _ h => h) (by rfl) (by intro w'; go_simp; try with_reducible rfl) ?_
            try simp only [Act.put, pA,pB,pC]
            refine RegP.ev1 (by (simp only [gA,gB,gC]); rfl) (fun K hK => ?_)
            go_simp
            refine hK.out _ _ ?_ (fun hHeld => ?_)
            · (try dsimp only); exact below_cell ((Below.refl w4.heap.size w4).alloc (Nat.le_refl _) _) hS4.out
            clear hK K
            try simp only [Act.put, pA,pB,pC]
            refine RegP.last1 (by (simp only [gA,gB,gC]); rfl) (fun K hK => ?_)
            rw [← hlbH.out]
            refine step_append_cells (w0 := w4) (W := w4) W4.heap.size rfl _ _ 27 39 (.agg #[.string ⟨#[]⟩, .slice none 0 0]) 2 40 rfl Tryd.underlying27 (by kernel_rfl) rfl (by decide) (by decide) (.slice Ao i co) i (ocells f 0 (outs.take i)) [.string (B nm), .slice Aq b.length cq] rfl rfl rfl (by intro u hu; rcases List.mem_cons.1 hu with rfl | hu; rfl; rw [List.mem_singleton.1 hu]; rfl) hof4.out (Below.refl _ _) hwl4 (by omega) ?_
            intro v8 w8 ho8 hb8 hg8 ha8
            obtain ⟨A8, c8, rfl⟩ : ∃ A c, v8 = .slice A (i + 1) c := by rcases ho8.2 with ⟨_, h⟩ | ⟨g, cap, cur, e, _⟩; exact absurd h (by omega); exact ⟨_, _, e⟩
            have hD8 := Lib.hid ((hg8.block db (Array.getElem?_eq_some_iff.1 hD4b.out).1 (fun e => by obtain ⟨cs, e1⟩ := own_typed hof4.out db e.symm; exact absurd (typed_ne hD4b.out e1) (by decide))).trans hD4b.out)
            have hO8 : Hid (OutsAt w8 W4.heap.size (.slice A8 (i + 1) c8) (outs.take (i + 1)) b) := by
              show OutsAt _ _ _ _ _
              rw [hTk.out]
              have h1 := hof4.out; have h2 := hor4.out; have h3 := ho8
              rw [← hTLH.out] at h1 h2 h3
              exact OutsAt.push2 (v := .slice Ao i co) (by simpa only [hTLH.out] using h1) h2 ho4H.out hg8 (by simpa only [hTLH.out] using h3)
            have hBt8 := Lib.hid (hBt4.out.grow hb8)
            have k0 := (cell_of_heap (j := 0) hD8.out).trans rfl
            have kf0 := frozen_of_heap hD8.out 0
            clear ho8 hb8 hg8 ha8
            rw [hlbH.out]
            refine hK.out _ _ ?_
            clear hK K
            try simp only [Act.put, pA,pB,pC]
            refine RegP.pure1 (by (simp only [gA,gB,gC]); rfl) (by exact fun _ _ _ h => h) (by rfl) (by intro w'; go_simp; try with_reducible rfl) ?_
            try simp only [Act.put, pA,pB,pC]
            refine RegP.last1 (by (simp only [gA,gB,gC]); rfl) (fun K hK => ?_)
            have hD9 := Lib.hid (blk_put hD8.out 0 (.slice A8 (i + 1) c8) rfl)
            have hBt9 : Hid (But db W4 (w8.setCell ⟨db, 0, none⟩ (.slice A8 (i + 1) c8))) := hBt8.out.set 0 _
            have hO9 : Hid (OutsAt (w8.setCell ⟨db, 0, none⟩ (.slice A8 (i + 1) c8)) W4.heap.size (.slice A8 (i + 1) c8) (outs.take (i + 1)) b) := hO8.out.move (fun k h1 _ => Below.heap_setCell _ _ _ _ (by have h2 := hdbl.out; have h3 := hB4.out.size; show k ≠ db; omega))
            go_simp
            generalize w8.setCell ⟨db, 0, none⟩ (.slice A8 (i + 1) c8) = w9 at *
            refine hK.out _ _ ?_
            clear hK K
            try simp only [Act.put, pA,pB,pC]
            refine RegP.done1 ?_
            try dsimp only
            go_wp2_with fail
            go_roundg gk
            case measure => omega
            case rel => exact ⟨i + 1, A8, c8, by first | rfl | simp, by omega, hD9, hO9, hBt9⟩
      · have hd1 : decide ((lb : Int) ≤ 65536) = false := by rw [decide_eq_false_iff_not]; omega
        go_wp2_with fail
        refine (need_no _).mono ?_
        rintro e W5 ⟨rfl, rfl⟩
        exact ⟨rfl, hBad.out _ (by rw [hE3.out, if_neg (by rw [hlbH.out]; exact hle)]) (But.of_below hB4.out)⟩
end Go.Proofs.YtbklhcjcgiblkaaDoor.Ck
end
section
set_option linter.unusedSimpArgs false
set_option linter.unusedVariables false
namespace Go.Proofs.YtbklhcjcgiblkaaDoor.Ck
open Go.RowKit Go.Lib Go.Shelf Go.Maps Go.Proofs.YtbklhcjcgiblkaaDoorW.PrintWords Go.Proofs.YtbklhcjcgiblkaaDoorW.PrintLast Go.Proofs.YtbklhcjcgiblkaaDoorW.PrintMore Go.Proofs.YtbklhcjcgiblkaaDoor.U Go.Proofs.YtbklhcjcgiblkaaDoor.P Go.Proofs.YtbklhcjcgiblkaaDoor.PTh Go.Proofs.YtbklhcjcgiblkaaDoor.MapV
open Go.Proofs.YtbklhcjcgiblkaaDoor.Fld (fieldsT)
def Cooked (r : Option DishL) (w : World) (e : Ending) (w' : World) : Prop := Below w.heap.size w w' ∧ match r with
  | none => e = .returned (.tuple #[.agg #[.slice none 0 0, .bool false, .string (B []), .string (B [])], .int .i64 13])
  | some d => ∃ vo names b, d = ⟨names.map fun n => ⟨n, b⟩, d.once, d.dep, d.deps⟩ ∧ e = .returned (.tuple #[.agg #[vo, .bool d.once, .string (B d.dep), .string (B d.deps)], .int .i64 0]) ∧ OutsAt w' w.heap.size vo names b
theorem low5 {w W5 w1 w2 : World} {x : Obj} {db o : Nat} (h : Below w.heap.size w W5) (h1 : But db (W5.alloc x) w1) (h2 : But o w1 w2) (hd : w.heap.size ≤ db) (ho : w.heap.size ≤ o) : Below w.heap.size w w2 := by
  have ha := h.alloc h.size x
  have hs := ha.size
  have hs1 := h1.size
  exact ⟨h2.os.trans (h1.os.trans ha.os), h2.tape.trans (h1.tape.trans ha.tape), h2.output.trans (h1.output.trans ha.output), Nat.le_trans hs (Nat.le_trans hs1 h2.size), fun k hk => (h2.same k (by omega) (by omega)).trans ((h1.same k (by omega) (by omega)).trans (ha.block k hk))⟩
set_option maxRecDepth 100000 in
set_option maxHeartbeats 16000000 in
theorem Cook_any (cmd : Txt) (hl : cmd.length ≤ 10000) (v : Env) (Ad Af : Option Addr) (cd cf : Nat) (w : World) (hG : Given w v Ad Af cd cf) (ht : Tab w) :
    Calls Tryd.prog 12 #[.string (B cmd), .slice Ad v.decl.length cd, .slice Af v.fs.length cf] w (Cooked (cookE cmd v) w) := by
  have hmf : ∀ (fn : Fn) (first cap : Array Value) (w : World), (Instr.makeFunc fn first cap).run Tryd.prog w = .ok (.func fn first cap) w := fun _ _ _ _ => rfl
  have hGH := Lib.hid hG
  have htH := Lib.hid ht
  obtain ⟨nd, hnd⟩ : ∃ n, v.decl.length = n := ⟨_, rfl⟩
  obtain ⟨nf, hnf⟩ : ∃ n, v.fs.length = n := ⟨_, rfl⟩
  have hndH := Lib.hid hnd
  have hnfH := Lib.hid hnf
  rw [hnd, hnf]
  clear hG ht hnd hnf
  obtain ⟨W5, hW5⟩ : ∃ W5, ((((w.alloc (.cells #[.string (B cmd)] 9)).alloc (.cells #[.slice Ad nd cd] 32)).alloc (.cells #[.slice Af nf cf] 27)).alloc (.cells #[.slice none 0 0, .bool false, .string (B []), .string (B [])] 34)).alloc (.cells #[.slice none 0 0, .bool false, .string (B []), .string (B [])] 34) = W5 := ⟨_, rfl⟩
  have hs5 : W5.heap.size = w.heap.size + 1 + 1 + 1 + 1 + 1 := by rw [← hW5]; simp
  have hb5 : Below w.heap.size w W5 := by
    rw [← hW5]
    have h1 := (Below.refl w.heap.size w).alloc (Nat.le_refl _) (.cells #[.string (B cmd)] 9)
    have h2 := h1.alloc h1.size (.cells #[.slice Ad nd cd] 32)
    have h3 := h2.alloc h2.size (.cells #[.slice Af nf cf] 27)
    have h4 := h3.alloc h3.size (.cells #[.slice none 0 0, .bool false, .string (B []), .string (B [])] 34)
    exact h4.alloc h4.size _
  have up1 : ∀ (w : World) (k : Nat) (x o : Obj), w.heap[k]? = some x → (w.alloc o).heap[k]? = some x := fun w k x o h => (((Below.refl w.heap.size w).alloc (Nat.le_refl _) o).block _ (Array.getElem?_eq_some_iff.1 h).1).trans h
  have n0 := heap_alloc_new w (.cells #[.string (B cmd)] 9)
  have g0 : W5.heap[w.heap.size]? = some (.cells #[.string (B cmd)] 9 (0, 0)) := by rw [← hW5]; exact (up1 _ _ _ _ (up1 _ _ _ _ (up1 _ _ _ _ (up1 _ _ _ _ n0))))
  have n1 := heap_alloc_new (w.alloc (.cells #[.string (B cmd)] 9)) (.cells #[.slice Ad nd cd] 32)
  simp only [World.size_alloc] at n1
  have g1 : W5.heap[w.heap.size + 1]? = some (.cells #[.slice Ad nd cd] 32 (0, 0)) := by rw [← hW5]; exact (up1 _ _ _ _ (up1 _ _ _ _ (up1 _ _ _ _ n1)))
  have n2 := heap_alloc_new ((w.alloc (.cells #[.string (B cmd)] 9)).alloc (.cells #[.slice Ad nd cd] 32)) (.cells #[.slice Af nf cf] 27)
  simp only [World.size_alloc] at n2
  have g2 : W5.heap[w.heap.size + 1 + 1]? = some (.cells #[.slice Af nf cf] 27 (0, 0)) := by rw [← hW5]; exact (up1 _ _ _ _ (up1 _ _ _ _ n2))
  have n3 := heap_alloc_new (((w.alloc (.cells #[.string (B cmd)] 9)).alloc (.cells #[.slice Ad nd cd] 32)).alloc (.cells #[.slice Af nf cf] 27)) (.cells #[.slice none 0 0, .bool false, .string (B []), .string (B [])] 34)
  simp only [World.size_alloc] at n3
  have g3 : W5.heap[w.heap.size + 1 + 1 + 1]? = some (.cells #[.slice none 0 0, .bool false, .string (B []), .string (B [])] 34 (0, 0)) := by rw [← hW5]; exact (up1 _ _ _ _ n3)
  have n4 := heap_alloc_new ((((w.alloc (.cells #[.string (B cmd)] 9)).alloc (.cells #[.slice Ad nd cd] 32)).alloc (.cells #[.slice Af nf cf] 27)).alloc (.cells #[.slice none 0 0, .bool false, .string (B []), .string (B [])] 34)) (.cells #[.slice none 0 0, .bool false, .string (B []), .string (B [])] 34)
  simp only [World.size_alloc] at n4
  have g4 : W5.heap[w.heap.size + 1 + 1 + 1 + 1]? = some (.cells #[.slice none 0 0, .bool false, .string (B []), .string (B [])] 34 (0, 0)) := by rw [← hW5]; exact n4
  have hbo := (Below.refl W5.heap.size W5).alloc (Nat.le_refl _) (.cells #[.int .i64 0] 35)
  have up : ∀ {k : Nat} {x : Obj}, W5.heap[k]? = some x → (W5.alloc (.cells #[.int .i64 0] 35)).heap[k]? = some x := fun {k x} h => (hbo.block _ (Array.getElem?_eq_some_iff.1 h).1).trans h
  have hdo := cook1_any cmd hl v Ad Af cd cf (W5.alloc (.cells #[.int .i64 0] 35)) (hGH.out.below (hb5.trans (hbo.mono hb5.size))) (htH.out.below (hb5.trans (hbo.mono hb5.size))) w.heap.size (w.heap.size + 1) (w.heap.size + 1 + 1) (w.heap.size + 1 + 1 + 1 + 1) W5.heap.size
    (up g0) (by rw [hndH.out]; exact up g1) (by rw [hnfH.out]; exact up g2) (up g4) (heap_alloc_new _ _) (by omega)
  have hGd := Lib.hid (guarded_any 17 #[at0 w.heap.size, at0 (w.heap.size + 1), at0 (w.heap.size + 1 + 1), at0 (w.heap.size + 1 + 1 + 1 + 1)] W5 (fun _ _ => by kernel_rfl) _ _ hdo)
  have hb5H := Lib.hid hb5
  have g3H := Lib.hid g3
  have hs5H := Lib.hid hs5
  have hos : Hid (W5.heap.size < (W5.alloc (.cells #[.int .i64 0] 35)).heap.size) := by show _ < _; simp
  clear g0 g1 g2 g3 g4 hdo hb5
  go_enter Tryd.func12, Tryd.ntmps12
  go_wp2_with fail
  clear n0 n1 n2 n3 n4 up1 up hbo
  refine hGd.out.mono ?_
  rintro e w2 (⟨rfl, w1, ⟨hB1, names, b, dep, deps, once, vo, hce, hd, ho⟩, hB2⟩ | ⟨rfl, w1, ⟨hB1, hce⟩, hB2⟩)
  · obtain ⟨Ao, co, rfl⟩ := ho.form
    have hlt := hB1.size
    have hs := hs5H.out
    have hd2 := Lib.hid ((hB2.same _ (Array.getElem?_eq_some_iff.1 hd).1 (by omega)).trans hd)
    have g32 := Lib.hid ((hB2.same _ (by have := hos.out; omega) (by omega)).trans ((hB1.same _ (by have := hos.out; omega) (by omega)).trans ((((Below.refl W5.heap.size W5).alloc (Nat.le_refl _) (.cells #[.int .i64 0] 35)).block _ (by omega)).trans g3H.out)))
    have hbw : Hid (Below w.heap.size w w2) := low5 hb5H.out hB1 hB2 (by omega) (by omega)
    have ho2 : Hid (OutsAt w2 (W5.heap.size + 1) (.slice Ao names.length co) names b) := by
      have h1 := ho.move (w' := w2) (fun k h1 h2 => hB2.same k h2 (by have := hos.out; omega))
      rw [World.size_alloc] at h1; exact h1
    have hce' := Lib.hid hce
    have x0 := (cell_of_heap (j := 0) hd2.out).trans rfl
    have x1 := (cell_of_heap (j := 1) hd2.out).trans rfl
    have x2 := (cell_of_heap (j := 2) hd2.out).trans rfl
    have x3 := (cell_of_heap (j := 3) hd2.out).trans rfl
    have y0 := (cell_of_heap (j := 0) g32.out).trans rfl
    have y1 := (cell_of_heap (j := 1) g32.out).trans rfl
    have y2 := (cell_of_heap (j := 2) g32.out).trans rfl
    have y3 := (cell_of_heap (j := 3) g32.out).trans rfl
    have f0 := frozen_of_heap g32.out 0
    have f1 := frozen_of_heap g32.out 1
    have f2 := frozen_of_heap g32.out 2
    have f3 := frozen_of_heap g32.out 3
    clear hB1 hB2 hd ho hce hlt hW5 hs5 hmf hl hs
    go_wp2_with fail
    obtain ⟨rb, hrb⟩ : ∃ n, w.heap.size + 1 + 1 + 1 = n := ⟨_, rfl⟩
    have k4 := blk_put (blk_put (blk_put (blk_put g32.out 0 (.slice Ao names.length co) rfl) 1 (.bool once) rfl) 2 (.string (B dep)) rfl) 3 (.string (B deps)) rfl
    have hkeep : ∀ k, k ≠ w.heap.size + 1 + 1 + 1 → ((((w2.setCell ⟨w.heap.size + 1 + 1 + 1, 0, none⟩ (.slice Ao names.length co)).setCell ⟨w.heap.size + 1 + 1 + 1, 1, none⟩ (.bool once)).setCell ⟨w.heap.size + 1 + 1 + 1, 2, none⟩ (.string (B dep))).setCell ⟨w.heap.size + 1 + 1 + 1, 3, none⟩ (.string (B deps))).heap[k]? = w2.heap[k]? := fun k hk => by rw [Below.heap_setCell _ _ _ _ hk, Below.heap_setCell _ _ _ _ hk, Below.heap_setCell _ _ _ _ hk, Below.heap_setCell _ _ _ _ hk]
    have hbz : Below w.heap.size w ((((w2.setCell ⟨w.heap.size + 1 + 1 + 1, 0, none⟩ (.slice Ao names.length co)).setCell ⟨w.heap.size + 1 + 1 + 1, 1, none⟩ (.bool once)).setCell ⟨w.heap.size + 1 + 1 + 1, 2, none⟩ (.string (B dep))).setCell ⟨w.heap.size + 1 + 1 + 1, 3, none⟩ (.string (B deps))) := ⟨hbw.out.os, hbw.out.tape, hbw.out.output, by simpa using hbw.out.size, fun k hk => (hkeep k (by omega)).trans (hbw.out.block k hk)⟩
    have q0 := (cell_of_heap (j := 0) k4).trans rfl
    have q1 := (cell_of_heap (j := 1) k4).trans rfl
    have q2 := (cell_of_heap (j := 2) k4).trans rfl
    have q3 := (cell_of_heap (j := 3) k4).trans rfl
    have ho3 : OutsAt ((((w2.setCell ⟨w.heap.size + 1 + 1 + 1, 0, none⟩ (.slice Ao names.length co)).setCell ⟨w.heap.size + 1 + 1 + 1, 1, none⟩ (.bool once)).setCell ⟨w.heap.size + 1 + 1 + 1, 2, none⟩ (.string (B dep))).setCell ⟨w.heap.size + 1 + 1 + 1, 3, none⟩ (.string (B deps))) w.heap.size (.slice Ao names.length co) names b := (ho2.out.move (fun k h1 h2 => hkeep k (by have := hs5H.out; omega))).weaken (by have := hs5H.out; omega)
    have hcb := hce'.out
    generalize ((((w2.setCell ⟨w.heap.size + 1 + 1 + 1, 0, none⟩ (.slice Ao names.length co)).setCell ⟨w.heap.size + 1 + 1 + 1, 1, none⟩ (.bool once)).setCell ⟨w.heap.size + 1 + 1 + 1, 2, none⟩ (.string (B dep))).setCell ⟨w.heap.size + 1 + 1 + 1, 3, none⟩ (.string (B deps))) = w9 at *
    rw [hcb]
    refine bodyPost_ret (v := .tuple #[.agg #[.slice Ao names.length co, .bool once, .string (B dep), .string (B deps)], .int .i64 0]) (by simp [results, Tryd.f12, go_sem, q0, q1, q2, q3]) rfl ⟨hbz, _, names, b, rfl, rfl, ho3⟩
  · have hlt := hB1.size
    have hs := hs5H.out
    have g32 := Lib.hid ((hB2.same _ (by have := hos.out; omega) (by omega)).trans ((hB1.same _ (by have := hos.out; omega) (by omega)).trans ((((Below.refl W5.heap.size W5).alloc (Nat.le_refl _) (.cells #[.int .i64 0] 35)).block _ (by omega)).trans g3H.out)))
    have hbw : Hid (Below w.heap.size w w2) := low5 hb5H.out hB1 hB2 (by omega) (by omega)
    have y0 := (cell_of_heap (j := 0) g32.out).trans rfl
    have y1 := (cell_of_heap (j := 1) g32.out).trans rfl
    have y2 := (cell_of_heap (j := 2) g32.out).trans rfl
    have y3 := (cell_of_heap (j := 3) g32.out).trans rfl
    have f0 := frozen_of_heap g32.out 0
    have f1 := frozen_of_heap g32.out 1
    have f2 := frozen_of_heap g32.out 2
    have f3 := frozen_of_heap g32.out 3
    have hce' := Lib.hid hce
    clear hB1 hB2 hce hlt hW5 hs5 hmf hl hs
    go_wp2_with fail
    obtain ⟨rb, hrb⟩ : ∃ n, w.heap.size + 1 + 1 + 1 = n := ⟨_, rfl⟩
    have k4 := blk_put (blk_put (blk_put (blk_put g32.out 0 (.slice none 0 0) rfl) 1 (.bool false) rfl) 2 (.string (B [])) rfl) 3 (.string (B [])) rfl
    have hkeep : ∀ k, k ≠ w.heap.size + 1 + 1 + 1 → ((((w2.setCell ⟨w.heap.size + 1 + 1 + 1, 0, none⟩ (.slice none 0 0)).setCell ⟨w.heap.size + 1 + 1 + 1, 1, none⟩ (.bool false)).setCell ⟨w.heap.size + 1 + 1 + 1, 2, none⟩ (.string (B []))).setCell ⟨w.heap.size + 1 + 1 + 1, 3, none⟩ (.string (B []))).heap[k]? = w2.heap[k]? := fun k hk => by rw [Below.heap_setCell _ _ _ _ hk, Below.heap_setCell _ _ _ _ hk, Below.heap_setCell _ _ _ _ hk, Below.heap_setCell _ _ _ _ hk]
    have hbz : Below w.heap.size w ((((w2.setCell ⟨w.heap.size + 1 + 1 + 1, 0, none⟩ (.slice none 0 0)).setCell ⟨w.heap.size + 1 + 1 + 1, 1, none⟩ (.bool false)).setCell ⟨w.heap.size + 1 + 1 + 1, 2, none⟩ (.string (B []))).setCell ⟨w.heap.size + 1 + 1 + 1, 3, none⟩ (.string (B []))) := ⟨hbw.out.os, hbw.out.tape, hbw.out.output, by simpa using hbw.out.size, fun k hk => (hkeep k (by omega)).trans (hbw.out.block k hk)⟩
    have q0 := (cell_of_heap (j := 0) k4).trans rfl
    have q1 := (cell_of_heap (j := 1) k4).trans rfl
    have q2 := (cell_of_heap (j := 2) k4).trans rfl
    have q3 := (cell_of_heap (j := 3) k4).trans rfl
    have hcb := hce'.out
    generalize hW9 : ((((w2.setCell ⟨w.heap.size + 1 + 1 + 1, 0, none⟩ (.slice none 0 0)).setCell ⟨w.heap.size + 1 + 1 + 1, 1, none⟩ (.bool false)).setCell ⟨w.heap.size + 1 + 1 + 1, 2, none⟩ (.string (B []))).setCell ⟨w.heap.size + 1 + 1 + 1, 3, none⟩ (.string (B []))) = w9 at *
    have hW9' := hW9
    simp only [B] at hW9'
    try rw [hW9']
    rw [hcb]
    refine bodyPost_ret (v := .tuple #[.agg #[.slice none 0 0, .bool false, .string (B []), .string (B [])], .int .i64 13]) (by simp [results, Tryd.f12, go_sem, q0, q1, q2, q3]) rfl ⟨hbz, rfl⟩
end Go.Proofs.YtbklhcjcgiblkaaDoor.Ck
end
section
set_option linter.unusedSimpArgs false
set_option linter.unusedVariables false
namespace Go.Proofs.YtbklhcjcgiblkaaDoor.Ck
open Go.RowKit Go.Lib Go.Shelf Go.Maps Go.Proofs.YtbklhcjcgiblkaaDoorW.PrintWords Go.Proofs.YtbklhcjcgiblkaaDoorW.PrintLast Go.Proofs.YtbklhcjcgiblkaaDoorW.PrintMore Go.Proofs.YtbklhcjcgiblkaaDoor.U Go.Proofs.YtbklhcjcgiblkaaDoor.P Go.Proofs.YtbklhcjcgiblkaaDoor.PTh Go.Proofs.YtbklhcjcgiblkaaDoor.MapV
open Go.Proofs.YtbklhcjcgiblkaaDoor.Fld (fieldsT)
def allocs (w : World) : List Obj → World
  | [] => w
  | o :: l => allocs (w.alloc o) l
theorem allocs_size : ∀ (l : List Obj) (w : World), (allocs w l).heap.size = w.heap.size + l.length
  | [], w => rfl
  | o :: l, w => by rw [allocs, allocs_size l, World.size_alloc, List.length_cons]; omega
theorem allocs_below : ∀ (l : List Obj) (w : World) (n : Nat), n ≤ w.heap.size → Below n w (allocs w l)
  | [], w, n, h => Below.refl _ _
  | o :: l, w, n, h => ((Below.refl n w).alloc h o).trans (allocs_below l _ n (by rw [World.size_alloc]; omega))
theorem allocs_at : ∀ (l : List Obj) (w : World) (i : Nat) (o : Obj), l[i]? = some o → (allocs w l).heap[w.heap.size + i]? = some o
  | [], w, i, o, h => by simp at h
  | x :: l, w, 0, o, h => by
    injection h with h
    subst h
    have h1 := (allocs_below l (w.alloc x) (w.alloc x).heap.size (Nat.le_refl _)).block w.heap.size (by simp)
    exact h1.trans (heap_alloc_new w x)
  | x :: l, w, i + 1, o, h => by
    have := allocs_at l (w.alloc x) i o h
    rw [World.size_alloc, Nat.add_assoc, Nat.add_comm 1 i] at this
    exact this
theorem reads_at {α : Type} {R : α → List Value → Prop} {size : Nat} {w : World} {g : Nat} {ty : TypeId} {fr : Nat × Nat} {cells : List Value} {ps : List α} (h : w.heap[g]? = some (.cells cells.toArray ty fr)) (hr : Reps R size ps cells) (hl : ps.length ≤ 9223372036854775807) :
    ReadsRow R size w (some ⟨g, 0, none⟩) ps.length ps := by
  refine ⟨rfl, hl, fun _ => ⟨_, rfl, fun j p hj => ⟨(cells.drop (j * size)).take size, ?_, hr.2 j p hj, fun i u hu => ?_⟩⟩⟩
  · have hjl : j < ps.length := (List.getElem?_eq_some_iff.1 hj).1
    have hm : (j + 1) * size ≤ ps.length * size := Nat.mul_le_mul_right _ hjl
    rw [List.length_take, List.length_drop, hr.1]
    rw [Nat.add_mul, Nat.one_mul] at hm
    omega
  · rw [add_plain, cell_of_heap h]
    rw [List.getElem?_take] at hu
    split at hu
    · rw [List.getElem?_drop] at hu
      simpa using hu
    · cases hu
theorem words_at {w : World} {g : Nat} {ty : TypeId} {fr : Nat × Nat} {ws : List Txt} (h : w.heap[g]? = some (.cells (strs ws).toArray ty fr)) (hl : ws.length ≤ 1000000) : Kd.C Kd.string w (some ⟨g, 0, none⟩) ws.length (ws.map B) := by
  have := reads_at (R := Kd.string.K w) (size := 1) (ps := ws.map B) h ⟨by simp [strs], fun j p hj => ?_⟩ (by rw [List.length_map]; omega)
  · rw [List.length_map] at this; exact this
  · rw [List.getElem?_map] at hj
    obtain ⟨x, hx, rfl⟩ := Option.map_eq_some_iff.1 hj
    show _ = _
    rw [Nat.mul_one, strs]
    obtain ⟨hjl, rfl⟩ := List.getElem?_eq_some_iff.1 hx
    rw [List.drop_eq_getElem_cons (by rw [List.length_map]; exact hjl), List.take_succ_cons, List.take_zero, List.getElem_map]
theorem bytes_at {w : World} {g : Nat} {ty : TypeId} {fr : Nat × Nat} {b : Txt} (h : w.heap[g]? = some (.cells (bcells b).toArray ty fr)) (hl : b.length ≤ 1000000) : (Kd.int .u8).C w (some ⟨g, 0, none⟩) b.length (ints b) := by
  have := reads_at (R := (Kd.int .u8).K w) (size := 1) (ps := ints b) h ⟨by rw [bcells_len, ints_len, Nat.mul_one], fun j p hj => ?_⟩ (by rw [ints_len]; omega)
  · rw [ints_len] at this; exact this
  · rw [ints, List.getElem?_map] at hj
    obtain ⟨x, hx, rfl⟩ := Option.map_eq_some_iff.1 hj
    obtain ⟨hjl, rfl⟩ := List.getElem?_eq_some_iff.1 hx
    show _ = _
    rw [Nat.mul_one]
    have hb : bcells b = b.map fun c => Value.int .u8 (c.toNat : Int) := by
      clear hx hl h
      induction b with
      | nil => rfl
      | cons c b ih => simp [bcells] at ih ⊢ <;> exact ih
    rw [hb, List.drop_eq_getElem_cons (by rw [List.length_map]; exact hjl), List.take_succ_cons, List.take_zero, List.getElem_map]
theorem files2_at {w : World} {g c1 c2 : Nat} {ty : TypeId} {fr : Nat × Nat} {n1 n2 b1 b2 : Txt} {A1 A2 : Option Addr} (h : w.heap[g]? = some (.cells #[.string (B n1), .slice A1 b1.length c1, .string (B n2), .slice A2 b2.length c2] ty fr))
    (l1 : b1.length ≤ c1) (h1 : (Kd.int .u8).C w A1 b1.length (ints b1)) (l2 : b2.length ≤ c2) (h2 : (Kd.int .u8).C w A2 b2.length (ints b2)) : Kd.C KF w (some ⟨g, 0, none⟩) 2 ([⟨n1, b1⟩, ⟨n2, b2⟩].map toF) := by
  have hl1 : (toF ⟨n1, b1⟩).f1.length = b1.length := ints_len b1
  have hl2 : (toF ⟨n2, b2⟩).f1.length = b2.length := ints_len b2
  have m1 := k39_mk w (toF ⟨n1, b1⟩) (A1 := A1) (c1 := c1) (by rw [hl1]; exact l1) (by rw [hl1]; exact h1)
  have m2 := k39_mk w (toF ⟨n2, b2⟩) (A1 := A2) (c1 := c2) (by rw [hl2]; exact l2) (by rw [hl2]; exact h2)
  rw [hl1] at m1
  rw [hl2] at m2
  refine reads_at (R := KF.K w) (size := 2) (ps := [⟨n1, b1⟩, ⟨n2, b2⟩].map toF) (cells := [.string (B n1), .slice A1 b1.length c1, .string (B n2), .slice A2 b2.length c2]) h ⟨rfl, fun j p hj => ?_⟩ (by simp)
  match j, hj with
  | 0, hj => injection hj with hj; subst hj; exact m1
  | 1, hj => injection hj with hj; subst hj; exact m2
  | j + 2, hj => simp at hj
theorem strOf_ints (b : Txt) : strOfNums (ints b) = B b := by
  have : (ints b).map (fun x => UInt8.ofNat x.toNat) = b := by
    unfold ints
    rw [List.map_map]
    conv => rhs; rw [← List.map_id b]
    apply List.map_congr_left
    intro c _
    simp
  unfold strOfNums; rw [this]
theorem conv_txt {w : World} {A : Option Addr} {c : Nat} {b : Txt} (h : (Kd.int .u8).C w A b.length (ints b)) : (convert 24 9 (.slice A b.length c)).run Tryd.prog w = .ok (.string (B b)) w := by
  rw [← strOf_ints b]
  exact Kd.C_string Tryd.underlying24 Tryd.underlying5 Tryd.underlying9 h
def av1 : Env := ⟨[[97], [98]], [⟨[97], [120]⟩, ⟨[98], [121]⟩]⟩
def av2 : Env := ⟨[[97]], [⟨[97], [35, 105, 110, 99, 108, 117, 100, 101, 32, 98]⟩, ⟨[98], [121]⟩]⟩
theorem awake_first : cookE [99, 97, 116, 32, 97, 32, 98, 32, 62, 32, 111] av1 = some ⟨[⟨[111], [120, 121]⟩], false, [], []⟩ := by kernel_rfl
theorem awake_second : cookE [105, 110, 99, 32, 97, 32, 62, 32, 111, 32, 58, 32, 100] av2 = some ⟨[⟨[111], [121]⟩], false, [100], [111, 58, 32, 98, 10]⟩ := by kernel_rfl
theorem OutsAt.one {w : World} {base co : Nat} {Ao : Option Addr} {nm b : Txt} (h : OutsAt w base (.slice Ao 1 co) [nm] b) : ∃ g o Ab cb, Ao = some ⟨g, o, none⟩ ∧ 1 ≤ co ∧ w.cell? ⟨g, o, none⟩ = some (.string (B nm)) ∧ w.cell? ⟨g, o + 1, none⟩ = some (.slice Ab b.length cb) ∧ b.length ≤ cb ∧ (Kd.int .u8).C w Ab b.length (ints b) := by
  obtain ⟨A, c, he, hl, hC⟩ := h.C
  injection he with he _ he2
  subst he he2
  obtain ⟨ad, A1, c1, rfl, k0, k1, l1, g1⟩ := file_at (fs := [⟨nm, b⟩]) hC 0 (by simp)
  have e0 : ad.add (0 * 2) = ad := by simp [Addr.add]
  rw [e0] at k0 k1
  have ep := addr_plain k0
  exact ⟨ad.block, ad.off, A1, c1, congrArg some ep, hl, by rw [← ep]; exact k0, k1, l1, g1⟩
theorem names1 {names : List Txt} {b nm b' : Txt} (h : [(⟨nm, b'⟩ : FileL)] = names.map fun n => ⟨n, b⟩) : names = [nm] ∧ b = b' := by
  match names, h with
  | [], h => simp at h
  | [n], h => simp at h; exact ⟨by rw [h.1], h.2.symm⟩
  | _ :: _ :: _, h => simp at h
theorem Cook_at (cmd : Txt) (hl : cmd.length ≤ 10000) (v : Env) (nd nf cd cf : Nat) (Ad Af : Option Addr) (w : World) (hG : Given w v Ad Af cd cf) (ht : Tab w) (h1 : v.decl.length = nd) (h2 : v.fs.length = nf) (s : ByteArray) (hs : s = B cmd) :
    Calls Tryd.prog 12 #[.string s, .slice Ad nd cd, .slice Af nf cf] w (Cooked (cookE cmd v) w) := by
  subst h1 h2 hs
  exact Cook_any cmd hl v Ad Af cd cf w hG ht
set_option maxRecDepth 100000 in
set_option maxHeartbeats 16000000 in
theorem awake_any (w : World) (ht : Tab w) : Calls Tryd.prog 11 #[] w fun e w' => e = .returned (.bool true) ∧ Below w.heap.size w w' := by
  have kc := fun (w : World) (C : Array Value) (n c : Nat) => Lib.run_convert_bytes_const (P := Tryd.prog) w 24 5 C n c Tryd.underlying24 Tryd.underlying5
  have kc1 : ∀ (o : Obj) (C : Array Value) (n c : Nat), (convert 24 24 (.slice (some ⟨w.heap.size + 1, 0, none⟩) n c)).run Tryd.prog ((w.alloc o).alloc (.cells C 5)) = .ok (.slice (some ⟨w.heap.size + 1, 0, none⟩) n c) ((w.alloc o).alloc (.cells C 5 (C.size, C.size + 1))) :=
    fun o C n c => by have := kc (w.alloc o) C n c; rwa [World.size_alloc] at this
  have htH := Lib.hid ht
  obtain ⟨L1, hL1⟩ : ∃ L : List Obj, L = [.cells #[.int .u8 120] 5 (1, 2), .cells #[.int .u8 121] 5 (1, 2), .cells #[.string (B [97]), .slice (some ⟨w.heap.size, 0, none⟩) 1 1, .string (B [98]), .slice (some ⟨w.heap.size + 1, 0, none⟩) 1 1] 39, .cells #[.string (B [97]), .string (B [98])] 9] := ⟨_, rfl⟩
  have hb1 := allocs_below L1 w w.heap.size (Nat.le_refl _)
  have hs1 := allocs_size L1 w
  have a0 := allocs_at L1 w 0
  have a1 := allocs_at L1 w 1
  have a2 := allocs_at L1 w 2
  have a3 := allocs_at L1 w 3
  have hW1 := (rfl : allocs w L1 = allocs w L1)
  generalize hWg : allocs w L1 = W1 at *
  rw [hL1] at a0 a1 a2 a3 hs1 hWg
  replace a0 := a0 _ rfl
  replace a1 := a1 _ rfl
  replace a2 := a2 _ rfl
  replace a3 := a3 _ rfl
  simp only [allocs] at hWg
  clear hL1 hW1 ht
  go_enter Tryd.func11, Tryd.ntmps11
  go_wp2_with fail
  have hG1 : Given W1 av1 (some ⟨w.heap.size + 1 + 1 + 1, 0, none⟩) (some ⟨w.heap.size + 1 + 1, 0, none⟩) 2 2 :=
    ⟨words_at (ws := [[97], [98]]) a3 (by decide), files2_at (n1 := [97]) (b1 := [120]) (n2 := [98]) (b2 := [121]) a2 (Nat.le_refl _) (bytes_at (b := [120]) a0 (by decide)) (Nat.le_refl _) (bytes_at (b := [121]) a1 (by decide)), by decide, by decide, by decide⟩
  have hC1 := Cook_at [99, 97, 116, 32, 97, 32, 98, 32, 62, 32, 111] (by decide) av1 2 2 2 2 _ _ W1 hG1 (htH.out.below hb1) rfl rfl _ rfl
  rw [awake_first] at hC1
  refine hC1.mono ?_
  rintro e W2 ⟨hb2, vo, names, b, hd, rfl, ho⟩
  injection hd with hd _ _ _
  obtain ⟨rfl, rfl⟩ := names1 hd
  obtain ⟨Ao, co, rfl⟩ := ho.form
  dsimp only
  have hoH := Lib.hid ho
  have hb2H := Lib.hid hb2
  have hbw : Hid (Below w.heap.size w W2) := hb1.trans (hb2.mono hb1.size)
  have b1 := (hb2.block _ (Array.getElem?_eq_some_iff.1 a1).1).trans a1
  have b2 := (hb2.block _ (Array.getElem?_eq_some_iff.1 a2).1).trans a2
  clear hG1 hC1 ho hb2 hWg hb1 a0 a1 a2 a3 kc1
  have kc2 : ∀ (o : Obj) (C : Array Value) (n c : Nat), (convert 24 24 (.slice (some ⟨W2.heap.size + 1, 0, none⟩) n c)).run Tryd.prog ((W2.alloc o).alloc (.cells C 5)) = .ok (.slice (some ⟨W2.heap.size + 1, 0, none⟩) n c) ((W2.alloc o).alloc (.cells C 5 (C.size, C.size + 1))) :=
    fun o C n c => by have := kc (W2.alloc o) C n c; rwa [World.size_alloc] at this
  obtain ⟨W3, hW3⟩ : ∃ W3, allocs W2 [.cells #[.slice Ao 1 co, .bool false, .string (B []), .string (B [])] 34, .cells #[.int .u8 35, .int .u8 105, .int .u8 110, .int .u8 99, .int .u8 108, .int .u8 117, .int .u8 100, .int .u8 101, .int .u8 32, .int .u8 98] 5 (10, 11)] = W3 := ⟨_, rfl⟩
  have hb3 : Below W2.heap.size W2 W3 := by rw [← hW3]; exact allocs_below _ W2 _ (Nat.le_refl _)
  have hs3 : W3.heap.size = W2.heap.size + 1 + 1 := by rw [← hW3]; exact allocs_size _ _
  have d3 : W3.heap[W2.heap.size]? = some (.cells #[.slice Ao 1 co, .bool false, .string (B []), .string (B [])] 34 (0, 0)) := by rw [← hW3]; exact allocs_at _ W2 0 _ rfl
  have i3 : W3.heap[W2.heap.size + 1]? = some (.cells #[.int .u8 35, .int .u8 105, .int .u8 110, .int .u8 99, .int .u8 108, .int .u8 117, .int .u8 100, .int .u8 101, .int .u8 32, .int .u8 98] 5 (10, 11)) := by rw [← hW3]; exact allocs_at _ W2 1 _ rfl
  have b13 := (hb3.block _ (Array.getElem?_eq_some_iff.1 b1).1).trans b1
  have b23 := (hb3.block _ (Array.getElem?_eq_some_iff.1 b2).1).trans b2
  have q3 := (cell_of_heap (j := 1) b23).trans rfl
  have qf := frozen_of_heap b23 1
  have b24 := blk_put b23 1 (.slice (some ⟨W2.heap.size + 1, 0, none⟩) 10 10) rfl
  have hks : ∀ k, k ≠ w.heap.size + 1 + 1 → (W3.setCell ⟨w.heap.size + 1 + 1, 1, none⟩ (.slice (some ⟨W2.heap.size + 1, 0, none⟩) 10 10)).heap[k]? = W3.heap[k]? := fun k hk => Below.heap_setCell _ _ _ _ hk
  have hss : (W3.setCell ⟨w.heap.size + 1 + 1, 1, none⟩ (.slice (some ⟨W2.heap.size + 1, 0, none⟩) 10 10)).heap.size = W3.heap.size := by simp
  have hlt := (Array.getElem?_eq_some_iff.1 b2).1
  have hbw4 : Below w.heap.size w (W3.setCell ⟨w.heap.size + 1 + 1, 1, none⟩ (.slice (some ⟨W2.heap.size + 1, 0, none⟩) 10 10)) :=
    (hbw.out.trans (hb3.mono hbw.out.size)).setCell (by show w.heap.size ≤ w.heap.size + 1 + 1; omega) _
  have b14 := (hks _ (by omega)).trans b13
  have d4 := (hks _ (by omega)).trans d3
  have i4 := (hks _ (by omega)).trans i3
  simp only [allocs] at hW3
  obtain ⟨W4, hW4⟩ : ∃ W4, W3.setCell ⟨w.heap.size + 1 + 1, 1, none⟩ (.slice (some ⟨W2.heap.size + 1, 0, none⟩) 10 10) = W4 := ⟨_, rfl⟩
  have hkeep : ∀ k, w.heap.size + 1 + 1 < k → k < W2.heap.size → W4.heap[k]? = W2.heap[k]? := fun k h1 h2 => by rw [← hW4]; exact (hks _ (by omega)).trans (hb3.block k h2)
  rw [hW4] at b24 hss hbw4 b14 d4 i4
  obtain ⟨W5, hW5⟩ : ∃ W5, W4.alloc (.cells #[.string (B [97])] 9) = W5 := ⟨_, rfl⟩
  have hb5 : Below W4.heap.size W4 W5 := by rw [← hW5]; exact (Below.refl _ _).alloc (Nat.le_refl _) _
  have n5 : W5.heap[W4.heap.size]? = some (.cells #[.string (B [97])] 9 (0, 0)) := by rw [← hW5]; exact heap_alloc_new _ _
  have hG2 : Given W5 av2 (some ⟨W4.heap.size, 0, none⟩) (some ⟨w.heap.size + 1 + 1, 0, none⟩) 1 2 := by
    have b15 := (hb5.block _ (Array.getElem?_eq_some_iff.1 b14).1).trans b14
    have b25 := (hb5.block _ (Array.getElem?_eq_some_iff.1 b24).1).trans b24
    have i5 := (hb5.block _ (Array.getElem?_eq_some_iff.1 i4).1).trans i4
    exact ⟨words_at (ws := [[97]]) n5 (by decide), files2_at (n1 := [97]) (b1 := [35, 105, 110, 99, 108, 117, 100, 101, 32, 98]) (n2 := [98]) (b2 := [121]) b25 (Nat.le_refl _) (bytes_at (b := [35, 105, 110, 99, 108, 117, 100, 101, 32, 98]) i5 (by decide)) (Nat.le_refl _) (bytes_at (b := [121]) b15 (by decide)), by decide, by decide, by decide⟩
  have hC2 := Cook_at [105, 110, 99, 32, 97, 32, 62, 32, 111, 32, 58, 32, 100] (by decide) av2 1 2 1 2 _ _ W5 hG2 (htH.out.below (hbw4.trans (hb5.mono hbw4.size))) rfl rfl _ rfl
  rw [awake_second] at hC2
  have hC2H := Lib.hid hC2
  have d4H := Lib.hid d4
  have hbw4H := Lib.hid hbw4
  have hb5H := Lib.hid hb5
  have hkH := Lib.hid hkeep
  have hsz : Hid (W2.heap.size ≤ W4.heap.size) := by show _ ≤ _; omega
  have hlw : Hid (w.heap.size + 1 + 1 < W2.heap.size) := hlt
  clear hG2 hC2 d4 hbw4 hb5 hkeep b1 b2 b13 b14 b24 hks hss d3 i3 i4 n5 hb3 hlt hs3
  go_wp2_with fail
  refine hC2H.out.mono ?_
  rintro e W6 ⟨hb6, vo2, names2, bb, hd2, rfl, ho2⟩
  injection hd2 with hd2 _ _ _
  obtain ⟨rfl, rfl⟩ := names1 hd2
  obtain ⟨Ao2, co2, rfl⟩ := ho2.form
  dsimp only
  obtain ⟨W7, hW7⟩ : ∃ W7, W6.alloc (.cells #[.slice Ao2 1 co2, .bool false, .string (B [100]), .string (B [111, 58, 32, 98, 10])] 34) = W7 := ⟨_, rfl⟩
  have hb7 : Below W6.heap.size W6 W7 := by rw [← hW7]; exact (Below.refl _ _).alloc (Nat.le_refl _) _
  have hb47 : Below W4.heap.size W4 W7 := hb5H.out.trans ((hb6.trans (hb7.mono hb6.size)).mono hb5H.out.size)
  have x7 : W7.heap[W6.heap.size]? = some (.cells #[.slice Ao2 1 co2, .bool false, .string (B [100]), .string (B [111, 58, 32, 98, 10])] 34 (0, 0)) := by rw [← hW7]; exact heap_alloc_new _ _
  have d7 := (hb47.block _ (Array.getElem?_eq_some_iff.1 d4H.out).1).trans d4H.out
  have ho7 := ho2.move (w' := W7) (fun k _ h => hb7.block k h)
  have hoA := hoH.out.move (w' := W7) (fun k h1 h2 => (hb47.block k (Nat.lt_of_lt_of_le h2 hsz.out)).trans (hkH.out k (by have h3 : W1.heap.size = w.heap.size + 4 := hs1; omega) h2))
  obtain ⟨g1, o1, Ab1, cb1, rfl, hc1, p0, p1, pl, pC⟩ := hoA.one
  obtain ⟨g2, o2, Ab2, cb2, rfl, hc2, r0, r1, rl, rC⟩ := ho7.one
  have cv1 : (convert 24 9 (.slice Ab1 2 cb1)).run Tryd.prog W7 = .ok (.string (B [120, 121])) W7 := conv_txt (b := [120, 121]) pC
  have cv2 : (convert 24 9 (.slice Ab2 1 cb2)).run Tryd.prog W7 = .ok (.string (B [121])) W7 := conv_txt (b := [121]) rC
  have p1' : W7.cell? ⟨g1, o1 + 1, none⟩ = some (.slice Ab1 2 cb1) := p1
  have r1' : W7.cell? ⟨g2, o2 + 1, none⟩ = some (.slice Ab2 1 cb2) := r1
  have y0 := (cell_of_heap (j := 0) d7).trans rfl
  have z0 := (cell_of_heap (j := 0) x7).trans rfl
  have z2 := (cell_of_heap (j := 2) x7).trans rfl
  have z3 := (cell_of_heap (j := 3) x7).trans rfl
  have hend : Hid (Below w.heap.size w W7) := hbw4H.out.trans (hb47.mono hbw4H.out.size)
  clear hb6 ho2 hoA ho7 hb7 hb47 x7 d7 pC rC p1 r1 pl rl hW3 hW4 hW5 kc kc2
  go_wp2_with fail
  go_ret
  exact ⟨rfl, hend.out⟩
end Go.Proofs.YtbklhcjcgiblkaaDoor.Ck
end
section
namespace Go.Proofs.YtbklhcjcgiblkaaDoor.P
open Go.RowKit Go.Proofs.YtbklhcjcgiblkaaDoorW.PrintWords Go.Proofs.YtbklhcjcgiblkaaDoorW.PrintLast Go.Proofs.YtbklhcjcgiblkaaDoorW.PrintMore
attribute [local go_sem] max2_int min2_int max_two min_two max_three min_three max_four min_four
set_option linter.unusedVariables false
set_option linter.unusedSimpArgs false
def bellowslaw15_of.l0 : Nat → List (S43) → List (S39) → Int → Option ((List (S39)))
  | 0, _, _, _ => none
  | k + 1, x0, x3, x4 => if x4 < (x0.length : Int) then (if 0 ≤ x4 then ((some (([] : List Int) : List Int)).bind fun y104 => (if y104.length + ((rd_T43 x0 x4).f1).length < 140737488355328 then (if x3.length < 3518437208883 then (bellowslaw15_of.l0 k x0 (x3 ++ [(⟨(rd_T43 x0 x4).f0, (y104 ++ ((rd_T43 x0 x4).f1))⟩ : S39)]) (wrap64 (x4 + 1))) else (none)) else (none))) else (none)) else (some x3)
def bellowslaw15_of.f (k : Nat) (l0 : List (S43)) : Option ((List (S39))) := bellowslaw15_of.l0 k l0 ([] : List (S39)) 0
theorem bellowslaw15_of.mono_l : ∀ k, (∀ y0 y1 y2, LeO (bellowslaw15_of.l0 k y0 y1 y2) (bellowslaw15_of.l0 (k + 1) y0 y1 y2))
  | 0 => fun _ _ _ r h => by simp [bellowslaw15_of.l0] at h
  | k + 1 => by
    have ih0 := bellowslaw15_of.mono_l k
    · intro y0 y1 y2
      unfold bellowslaw15_of.l0
      repeat' first
      | (with_reducible exact ih0 _ _ _)
      | (with_reducible exact LeO.refl _)
      | (with_reducible exact LeO.none _)
      | (with_reducible refine LeO.ite ?_ ?_)
      | (with_reducible refine LeO.bind ?_ (fun _ => ?_))
      | exact ih0 _ _ _
      | exact LeO.none _
      | refine LeO.ite ?_ ?_
      | refine LeO.bind ?_ (fun _ => ?_)
theorem bellowslaw15_of.mono : ∀ a0 k, LeO (bellowslaw15_of.f k a0) (bellowslaw15_of.f (k + 1) a0) := by
  intro a0 k
  have ih0 := bellowslaw15_of.mono_l k
  unfold bellowslaw15_of.f
  repeat' first
      | (with_reducible exact ih0 _ _ _)
      | (with_reducible exact LeO.refl _)
      | (with_reducible exact LeO.none _)
      | (with_reducible refine LeO.ite ?_ ?_)
      | (with_reducible refine LeO.bind ?_ (fun _ => ?_))
      | exact ih0 _ _ _
      | exact LeO.none _
      | refine LeO.ite ?_ ?_
      | refine LeO.bind ?_ (fun _ => ?_)
def bellowslaw15_of.T5 : Bool × List (List Nat × List Nat) := (true, [([], []), ([], []), ([], []), ([1, 2], [1, 2]), ([3], [3]), ([4], [4]), ([], []), ([], []), ([], []), ([7, 8], [7, 8]), ([9], [9]), ([10], [10]), ([6, 11], [6, 11]), ([5, 12], [5, 12]), ([13], [13]), ([0, 14, 12], [0, 14]), ([15, 15, 0, 1, 2, 3, 4, 5, 6, 7, 8, 9, 10, 11, 12, 13, 14, 15], [0, 15])])
def bellowslaw15_of.B5 : List Nat := [0, 0, 0, 6, 14, 30, 0, 0, 0, 384, 896, 1920, 4032, 8190, 16382, 32767, 65535]
theorem bellowslaw15_of.tab5 : rtab .any (opsOf Tryd.f9 5) = bellowslaw15_of.T5 := by kernel_rfl
theorem bellowslaw15_of.bits5 : waitsOk bellowslaw15_of.T5.2 bellowslaw15_of.B5 = true := by kernel_rfl
set_option maxHeartbeats 8000000 in
set_option maxRecDepth 100000 in
theorem bellowslaw15_of.calls (k : Nat) (A0 : Option Addr) (c0 : Nat) (l0 : List (S43)) (r : List (S39)) (w : World) (hr0 : Kd.C k43 w A0 l0.length l0) (hc0 : l0.length ≤ c0) (h : bellowslaw15_of.f k l0 = some r) :
    Calls Tryd.prog 9 #[.slice A0 l0.length c0] w fun e w' => ∃ v0_ : Value, e = .returned (v0_) ∧ Kd.S k39 39 w' w.heap.size (fun _ => True) v0_ r ∧ Below w.heap.size w w' := by
  have hu39 := Tryd.underlying39
  have HR0 := Aside0.mk hr0
  have HC0 := Aside0.mk hc0
  clear hr0 hc0
  have HB := Aside0.mk (Below.refl w.heap.size w)
  have H : (bellowslaw15_of.l0 k l0 ([] : List (S39)) 0) = some r := h
  clear h
  have H' := Aside0.mk H
  clear H
  go_enter Tryd.func9, Tryd.ntmps9
  go_wp2
  go_loopg [3, 4] k (fun kq v3 v4 w' => ∃ (x3_1 : List (S39)) (x4_1 : Int), v4 = .int .i64 x4_1 ∧ Aside0 (bellowslaw15_of.l0 kq l0 x3_1 x4_1 = some r) ∧ Aside0 (kq ≤ k) ∧ Aside0 (Kd.S k39 39 w' w.heap.size (fun _ => True) v3 x3_1) ∧ Aside0 (Below w.heap.size w w'))
  case atStart => exact ⟨(([] : List (S39))), (0), (by first | rfl | (simp; done) | (simp [*]; done)), H', ⟨Nat.le_refl _⟩, ⟨by first | exact Kd.S_nil _ _ _ _ _ | exact Kd.N_nil _ _ _ _ _ | exact Kd.V_nil _ _ _ _ _ | exact Kd.Q_nil _ _ _ _ _ | exact Kd.R_nil _ _ _ _ _⟩, ⟨by repeat (first | (with_reducible first | exact HB.out | apply below_alloc | apply pw_below_drewN | apply below_drew1) | exact HB.out)⟩⟩
  case round =>
    clear H'
    obtain ⟨x3_1, x4_1, rfl, HA, HK1, HO_3, HB⟩ := hrel
    cases gk with
    | zero => exact absurd HA.out (by simp [bellowslaw15_of.l0])
    | succ k1 =>
      have H := HA.out
      clear HA
      simp only [bellowslaw15_of.l0] at H
      by_cases c2 : x4_1 < (l0.length : Int)
      · rw [if_pos c2] at H
        have c2b0 : decide (x4_1 < (l0.length : Int)) = true := decide_eq_true c2
        clear c2
        by_cases c3 : 0 ≤ x4_1
        · rw [if_pos c3] at H
          have c3b0 : decide (0 ≤ x4_1) = true := decide_eq_true c3
          clear c3
          obtain ⟨y104, hy104⟩ : ∃ y_ : List Int, y_ = (([] : List Int)) := ⟨_, rfl⟩
          replace H : (if y104.length + ((rd_T43 l0 x4_1).f1).length < 140737488355328 then (if x3_1.length < 3518437208883 then (bellowslaw15_of.l0 k1 l0 (x3_1 ++ [(⟨(rd_T43 l0 x4_1).f0, (y104 ++ ((rd_T43 l0 x4_1).f1))⟩ : S39)]) (wrap64 (x4_1 + 1))) else (none)) else (none)) = some r := by first | (rw [hy104]; with_reducible exact H) | (have H2_ := (Option.bind_some _ _).symm.trans H; rw [hy104]; with_reducible exact H2_) | (have H2_ := (Option.bind_some _ _).symm.trans H; with_reducible exact H2_) | with_reducible exact H | (rw [hy104]; exact H) | exact H
          have Ny104 := Aside0.mk hy104
          clear hy104
          by_cases c4 : y104.length + ((rd_T43 l0 x4_1).f1).length < 140737488355328
          · rw [if_pos c4] at H
            have LMc4 := Aside0.mk c4
            clear c4
            obtain ⟨y108, hy108⟩ : ∃ y_ : List Int, y_ = (y104 ++ ((rd_T43 l0 x4_1).f1)) := ⟨_, rfl⟩
            replace H : (if x3_1.length < 3518437208883 then (bellowslaw15_of.l0 k1 l0 (x3_1 ++ [(⟨(rd_T43 l0 x4_1).f0, y108⟩ : S39)]) (wrap64 (x4_1 + 1))) else (none)) = some r := by first | (rw [hy108]; with_reducible exact H) | (have H2_ := (Option.bind_some _ _).symm.trans H; rw [hy108]; with_reducible exact H2_) | (have H2_ := (Option.bind_some _ _).symm.trans H; with_reducible exact H2_) | with_reducible exact H | (rw [hy108]; exact H) | exact H
            have Ny108 := Aside0.mk hy108
            clear hy108
            by_cases c5 : x3_1.length < 3518437208883
            · rw [if_pos c5] at H
              have LMc5 := Aside0.mk c5
              clear c5
              obtain ⟨y111, hy111⟩ : ∃ y_ : List (S39), y_ = (x3_1 ++ [(⟨(rd_T43 l0 x4_1).f0, y108⟩ : S39)]) := ⟨_, rfl⟩
              replace H : (bellowslaw15_of.l0 k1 l0 y111 (wrap64 (x4_1 + 1))) = some r := by first | (rw [hy111]; with_reducible exact H) | (have H2_ := (Option.bind_some _ _).symm.trans H; rw [hy111]; with_reducible exact H2_) | (have H2_ := (Option.bind_some _ _).symm.trans H; with_reducible exact H2_) | with_reducible exact H | (rw [hy111]; exact H) | exact H
              have Ny111 := Aside0.mk hy111
              clear hy111
              have H' := Aside0.mk H
              clear H
              try go_wp2
              have n0_ := Aside0.mk (Kd.S_drew HO_3.out)
              have n1_ := Aside0.mk (below_drew1 HB.out)
              clear HO_3
              clear HB
              have HO_3 := n0_
              have HB := n1_
              clear n0_ n1_
              have p103 : 0 ≤ (x4_1 : Int) := of_decide_eq_true (by first | (with_reducible assumption) | assumption)
              have q103 : x4_1 < (l0.length : Int) := of_decide_eq_true (by first | (with_reducible assumption) | assumption)
              obtain ⟨ad103, A103_1, c103_1, e103, hx103_0, hx103_1, hl103_1, hi103_1⟩ := at_T43 HR0.out x4_1 p103 q103
              have hw103_1 := hx103_1
              have hw103_0 := hx103_0
              cases e103
              replace hx103_0 := (HB.out.cell (World.block_lt_of_cell? w _ hx103_0)).trans hx103_0
              replace hx103_1 := (HB.out.cell (World.block_lt_of_cell? w _ hx103_1)).trans hx103_1
              have HR103_1 := Aside0.mk hi103_1
              have HC103_1 := Aside0.mk hl103_1
              clear hi103_1 hl103_1
              replace p103 := eq_true p103
              replace q103 := eq_true q103
              have p107 : 0 ≤ (x4_1 : Int) := of_decide_eq_true (by first | (with_reducible assumption) | assumption)
              have q107 : x4_1 < (l0.length : Int) := of_decide_eq_true (by first | (with_reducible assumption) | assumption)
              obtain ⟨ad107, A107_1, c107_1, e107, hx107_0, hx107_1, hl107_1, hi107_1⟩ := at_T43 HR0.out x4_1 p107 q107
              have hw107_1 := hx107_1
              have hw107_0 := hx107_0
              obtain rfl : ad103 = ad107 := (by injection e107)
              replace hx107_0 := (HB.out.cell (World.block_lt_of_cell? w _ hx107_0)).trans hx107_0
              replace hx107_1 := (HB.out.cell (World.block_lt_of_cell? w _ hx107_1)).trans hx107_1
              have HR107_1 := Aside0.mk hi107_1
              have HC107_1 := Aside0.mk hl107_1
              clear hi107_1 hl107_1
              replace p107 := eq_true p107
              replace q107 := eq_true q107
              have ea_ := Option.some.inj (hx103_1.symm.trans hx107_1)
              injection ea_ with ea_ en_ ec_
              subst ea_
              subst ec_
              clear en_
              refine start_ (n := 17) (S := fun w' => w'.cell? (ad103.add ((x4_1).toNat * 2)) = some (.string ((rd_T43 l0 x4_1).f0)) ∧ w'.cell? ⟨(ad103.add ((x4_1).toNat * 2)).block, (ad103.add ((x4_1).toNat * 2)).off + 1, none⟩ = some (.slice A103_1 ((rd_T43 l0 x4_1).f1).length c103_1) ∧ w'.cell? (ad103.add ((x4_1).toNat * 2)) = some (.string ((rd_T43 l0 x4_1).f0)) ∧ w'.cell? ⟨(ad103.add ((x4_1).toNat * 2)).block, (ad103.add ((x4_1).toNat * 2)).off + 1, none⟩ = some (.slice A103_1 ((rd_T43 l0 x4_1).f1).length c103_1)) (ds := []) #[false, false, false, false, false, false, false, false, false, false, false, false, false, false, false, false, false] (by kernel_rfl) rfl rfl ⟨((HB.out.cell (World.block_lt_of_cell? w _ hw103_0)).trans hw103_0), ((HB.out.cell (World.block_lt_of_cell? w _ hw103_1)).trans hw103_1), ((HB.out.cell (World.block_lt_of_cell? w _ hw107_0)).trans hw107_0), ((HB.out.cell (World.block_lt_of_cell? w _ hw107_1)).trans hw107_1)⟩ (fun hHeld => ?_); refine with_tabW bellowslaw15_of.tab5 bellowslaw15_of.bits5 (fun HT_ HW_ => ?_)
              generalize wr.drew = w6 at HO_3 HB HR103_1 HR107_1 hx103_0 hx103_1 hx107_0 hx107_1 hHeld ⊢
              refine pure_ (i := 0) (N := some 11) (v := ?_) (a' := ?_) #[true, false, false, false, false, false, false, false, false, false, false, false, false, false, false, false, false] rfl rfl (any_of HT_.out (by kernel_rfl)) (fun _ _ _ h => h) (Or.inl ⟨by rfl, ?_⟩) ?_ ?_
              rotate_left
              · intro w'
                go_simp
                with_reducible rfl
              rotate_left
              · simp only [Act.put, pA,pB,pC, i64_w, i32_w]
                rfl
              refine pure_ (i := 1) (N := some 12) (v := ?_) (a' := ?_) #[true, true, false, false, false, false, false, false, false, false, false, false, false, false, false, false, false] rfl rfl (any_of HT_.out (by kernel_rfl)) (fun _ _ _ h => h) (Or.inl ⟨by rfl, ?_⟩) ?_ ?_
              rotate_left
              · intro w'
                go_simp
                with_reducible rfl
              rotate_left
              · simp only [Act.put, pA,pB,pC, i64_w, i32_w]
                rfl
              refine pure_ (i := 2) (N := some 13) (v := ?_) (a' := ?_) #[true, true, true, false, false, false, false, false, false, false, false, false, false, false, false, false, false] rfl rfl (any_of HT_.out (by kernel_rfl)) (fun _ _ _ h => h) (Or.inl ⟨by rfl, ?_⟩) ?_ ?_
              rotate_left
              · intro w'
                go_simp
                with_reducible rfl
              rotate_left
              · simp only [Act.put, pA,pB,pC, i64_w, i32_w]
                rfl
              refine pure_ (i := 3) (N := some 14) (v := ?_) (a' := ?_) #[true, true, true, true, false, false, false, false, false, false, false, false, false, false, false, false, false] rfl rfl (any_of HT_.out (by kernel_rfl)) (fun _ _ _ h => h) (Or.inl ⟨by rfl, ?_⟩) ?_ ?_
              rotate_left
              · intro w'
                go_simp
                with_reducible rfl
              rotate_left
              · simp only [Act.put, pA,pB,pC, i64_w, i32_w]
                rfl
              refine pure_ (i := 4) (N := some 15) (v := ?_) (a' := ?_) #[true, true, true, true, true, false, false, false, false, false, false, false, false, false, false, false, false] rfl rfl (any_of HT_.out (by kernel_rfl)) (fun _ _ _ h => h) (Or.inl ⟨by rfl, ?_⟩) ?_ ?_
              rotate_left
              · intro w'
                go_simp
                with_reducible rfl
              rotate_left
              · simp only [Act.put, pA,pB,pC, i64_w, i32_w]
                rfl
              refine pure_ (i := 7) (N := some 18) (v := ?_) (a' := ?_) #[true, true, true, true, true, false, false, true, false, false, false, false, false, false, false, false, false] rfl rfl (any_of HT_.out (by kernel_rfl)) (fun _ _ _ h => h) (Or.inl ⟨by rfl, ?_⟩) ?_ ?_
              rotate_left
              · intro w'
                go_simp
                with_reducible rfl
              rotate_left
              · simp only [Act.put, pA,pB,pC, i64_w, i32_w]
                rfl
              refine pure_ (i := 8) (N := some 19) (v := ?_) (a' := ?_) #[true, true, true, true, true, false, false, true, true, false, false, false, false, false, false, false, false] rfl rfl (any_of HT_.out (by kernel_rfl)) (fun _ _ _ h => h) (Or.inl ⟨by rfl, ?_⟩) ?_ ?_
              rotate_left
              · intro w'
                go_simp
                with_reducible rfl
              rotate_left
              · simp only [Act.put, pA,pB,pC, i64_w, i32_w]
                rfl
              refine pure_ (i := 9) (N := some 20) (v := ?_) (a' := ?_) #[true, true, true, true, true, false, false, true, true, true, false, false, false, false, false, false, false] rfl rfl (any_of HT_.out (by kernel_rfl)) (fun _ _ _ h => h) (Or.inl ⟨by rfl, ?_⟩) ?_ ?_
              rotate_left
              · intro w'
                go_simp
                with_reducible rfl
              rotate_left
              · simp only [Act.put, pA,pB,pC, i64_w, i32_w]
                rfl
              refine pure_ (i := 10) (N := some 21) (v := ?_) (a' := ?_) #[true, true, true, true, true, false, false, true, true, true, true, false, false, false, false, false, false] rfl rfl (any_of HT_.out (by kernel_rfl)) (fun _ _ _ h => h) (Or.inl ⟨by rfl, ?_⟩) ?_ ?_
              rotate_left
              · intro w'
                go_simp
                with_reducible rfl
              rotate_left
              · simp only [Act.put, pA,pB,pC, i64_w, i32_w]
                rfl
              refine take_ (i := 5) (N := some 16) (v := ?_) (a' := ?_) #[true, true, true, true, true, true, false, true, true, true, true, false, false, false, false, false, false] rfl rfl (take_ofW HT_.out HW_.out (by kernel_rfl)) (fun _ _ _ h => h) (Or.inl ⟨by rfl, ?_⟩) hHeld ?_ ?_
              rotate_left
              · rintro w' ⟨s0, s1, s2, s3⟩
                go_simp
                with_reducible rfl
              rotate_left
              · simp only [Act.put, pA,pB,pC, i64_w, i32_w]
                rfl
              refine take_ (i := 11) (N := some 22) (v := ?_) (a' := ?_) #[true, true, true, true, true, true, false, true, true, true, true, true, false, false, false, false, false] rfl rfl (take_ofW HT_.out HW_.out (by kernel_rfl)) (fun _ _ _ h => h) (Or.inl ⟨by rfl, ?_⟩) hHeld ?_ ?_
              rotate_left
              · rintro w' ⟨s0, s1, s2, s3⟩
                go_simp
                with_reducible rfl
              rotate_left
              · simp only [Act.put, pA,pB,pC, i64_w, i32_w]
                rfl
              refine one_ (i := 6) (N := some 17) #[true, true, true, true, true, true, true, true, true, true, true, true, false, false, false, false, false] rfl rfl (one_of HT_.out (by kernel_rfl)) (by decide) (fun K hK => ?_)
              refine Kd.R_lit_step (Kd.int .u8) _ 5 ?hg (N := 17) ?hd (xs := ([] : List Int)) (inner := []) (ok := fun _ => True) (okp := fun _ => True) ?hr ?hp (fun _ hk => hk) trivial (Below.refl _ _) (Nat.le_refl _) (by simp) ?_; (case hd => rfl); (case hg => rfl); (case hr => first | (go_simp; done) | (go_simp; rfl)); (case hp => exact (Reps.none _ _))
              intro v105 w7 ho8 hb hg_ hnew_
              clear hg_ hnew_
              (first | rw [← Ny104.out] at ho8 | (simp only [Int.reduceToNat] at ho8; rw [← Ny104.out] at ho8))
              have n0_ := Aside0.mk (Kd.S_elder' (by (with_reducible repeat (first | apply Kd.S_alloc | apply Kd.S_drewN | apply Kd.S_drew)); exact HO_3.out) (Kd.R_base ho8) hb)
              have n1_ := Aside0.mk (Kd.R_lower ho8 (below_size (by repeat (first | (with_reducible first | exact HB.out | apply below_alloc | apply pw_below_drewN | apply below_drew1) | exact HB.out))))
              have n2_ := Aside0.mk (below_step (by repeat (first | (with_reducible first | exact HB.out | apply below_alloc | apply pw_below_drewN | apply below_drew1) | exact HB.out)) hb)
              clear HO_3
              clear HB
              have HO_3 := n0_
              have HO106 := n1_
              have HB := n2_
              clear n0_ n1_ n2_
              clear hb ho8
              refine hK.out _ _ ⟨((HB.out.cell (World.block_lt_of_cell? w _ hw103_0)).trans hw103_0), ((HB.out.cell (World.block_lt_of_cell? w _ hw103_1)).trans hw103_1), ((HB.out.cell (World.block_lt_of_cell? w _ hw107_0)).trans hw107_0), ((HB.out.cell (World.block_lt_of_cell? w _ hw107_1)).trans hw107_1)⟩ (fun hHeld => ?_)
              clear hK K
              refine norm_ (a' := ?_) ?_ ?_
              rotate_left
              · show Act.put _ (some 17) _ = _
                simp only [Act.put, pA,pB,pC, i64_w, i32_w]
                rfl
              refine one_ (i := 12) (N := some 23) #[true, true, true, true, true, true, true, true, true, true, true, true, true, false, false, false, false] rfl rfl (one_of HT_.out (by kernel_rfl)) (by decide) (fun K hK => ?_)
              refine Kd.R_append_rows_step (Kd.int .u8) (w0 := w) w.heap.size (by rfl) (.tmp 17) (.tmp 22) 24 5 (.int .u8 0) 1 rfl Tryd.underlying24 info5 rfl (by decide) (by omega) v105 y104 ((rd_T43 l0 x4_1).f1) _ _ _ (fun _ => True) (fun _ => False) rfl rfl ?aO ?aR (fun _ _ h => h) (fun _ h => h.elim) ?aF ?aB ?aS ?aL ?_
              (case aR => repeat (first | exact (Kd.C_below HR107_1.out HB.out) | (with_reducible refine Kd.C_alloc ?_ _) | (with_reducible refine Kd.C_drewN ?_ _) | (with_reducible refine Kd.C_drew ?_)))
              (case aB => exact (by repeat (first | (with_reducible first | exact HB.out | apply below_alloc | apply pw_below_drewN | apply below_drew1) | exact HB.out)))
              (case aF => exact (fun _ _ => trivial))
              (case aO => exact (by (with_reducible repeat (first | apply Kd.R_alloc | apply Kd.R_drewN | apply Kd.R_drew)); exact HO106.out))
              (case aS => exact (below_size (by repeat (first | (with_reducible first | exact HB.out | apply below_alloc | apply pw_below_drewN | apply below_drew1) | exact HB.out))))
              (case aL => have := LMc4.out; omega)
              intro v109 w9 ho hb hg hat
              rw [← Ny108.out] at ho
              have n0_ := Aside0.mk (Kd.S_after (ok := (fun _ => True)) (by (with_reducible repeat (first | apply Kd.S_alloc | apply Kd.S_drewN | apply Kd.S_drew)); exact HO_3.out) hg hat)
              have n1_ := Aside0.mk (hb)
              have n2_ := Aside0.mk (ho)
              clear HO_3
              clear HB
              clear HO106
              have HO_3 := n0_
              have HB := n1_
              have HO110 := n2_
              clear n0_ n1_ n2_
              clear ho hb hg hat
              obtain ⟨Ao10, co10, eo10⟩ := Kd.R_slice HO110.out
              (first | subst eo10 | (injection eo10 with f1_ f2_ f3_; have f4_ := f1_.symm; have f5_ := f3_.symm; clear f1_ f2_ f3_; subst f4_; subst f5_))
              refine hK.out _ _ ⟨((HB.out.cell (World.block_lt_of_cell? w _ hw103_0)).trans hw103_0), ((HB.out.cell (World.block_lt_of_cell? w _ hw103_1)).trans hw103_1), ((HB.out.cell (World.block_lt_of_cell? w _ hw107_0)).trans hw107_0), ((HB.out.cell (World.block_lt_of_cell? w _ hw107_1)).trans hw107_1)⟩ (fun hHeld => ?_)
              clear hK K
              refine norm_ (a' := ?_) ?_ ?_
              rotate_left
              · show Act.put _ (some 23) _ = _
                simp only [Act.put, pA,pB,pC, i64_w, i32_w]
                rfl
              refine pure_ (i := 13) (N := some 24) (v := ?_) (a' := ?_) #[true, true, true, true, true, true, true, true, true, true, true, true, true, true, false, false, false] rfl rfl (any_of HT_.out (by kernel_rfl)) (fun _ _ _ h => h) (Or.inl ⟨by rfl, ?_⟩) ?_ ?_
              rotate_left
              · intro w'
                go_simp
                with_reducible rfl
              rotate_left
              · simp only [Act.put, pA,pB,pC, i64_w, i32_w]
                rfl
              refine one_ (i := 14) (N := some 25) #[true, true, true, true, true, true, true, true, true, true, true, true, true, true, true, false, false] rfl rfl (one_of HT_.out (by kernel_rfl)) (by decide) (fun K hK => ?_)
              refine value_ (w1 := ?_) (v := ?_) (by rfl) rfl ?_ ?_
              rotate_left 2
              · go_simp
                constructor
                · rfl
                · rfl
              refine hK.out _ _ ⟨(World.cell?_alloc_lt _ _ _ (World.block_lt_of_cell? _ _ (((HB.out.cell (World.block_lt_of_cell? w _ hw103_0)).trans hw103_0)))).trans (((HB.out.cell (World.block_lt_of_cell? w _ hw103_0)).trans hw103_0)), (World.cell?_alloc_lt _ _ _ (World.block_lt_of_cell? _ _ (((HB.out.cell (World.block_lt_of_cell? w _ hw103_1)).trans hw103_1)))).trans (((HB.out.cell (World.block_lt_of_cell? w _ hw103_1)).trans hw103_1)), (World.cell?_alloc_lt _ _ _ (World.block_lt_of_cell? _ _ (((HB.out.cell (World.block_lt_of_cell? w _ hw107_0)).trans hw107_0)))).trans (((HB.out.cell (World.block_lt_of_cell? w _ hw107_0)).trans hw107_0)), (World.cell?_alloc_lt _ _ _ (World.block_lt_of_cell? _ _ (((HB.out.cell (World.block_lt_of_cell? w _ hw107_1)).trans hw107_1)))).trans (((HB.out.cell (World.block_lt_of_cell? w _ hw107_1)).trans hw107_1))⟩ (fun hHeld => ?_)
              clear hK K
              refine norm_ (a' := ?_) ?_ ?_
              rotate_left
              · show Act.put _ (some 25) _ = _
                simp only [Act.put, pA,pB,pC, i64_w, i32_w]
                rfl
              refine one_ (i := 15) (N := some 26) #[true, true, true, true, true, true, true, true, true, true, true, true, true, true, true, true, false] rfl rfl (one_of HT_.out (by kernel_rfl)) (by decide) (fun K hK => ?_)
              refine Kd.S_append_step k39 (w0 := w) w.heap.size (by rfl) (.tmp 11) (.tmp 25) 27 39 (.agg #[(.string ⟨#[]⟩), (.slice none 0 0)]) 40 rfl Tryd.underlying27 info39 rfl (by decide) (by omega) u3 x3_1 (⟨(rd_T43 l0 x4_1).f0, y108⟩ : S39) [.string ((rd_T43 l0 x4_1).f0), .slice Ao10 y108.length co10] (fun _ => True) (fun k_ => some k_ = (.slice Ao10 y108.length co10 : Value).ownBlock) rfl rfl ?aP (fun k_ hk_ => ((Kd.R_mono (ok' := fun k_ => ((fun _ => True)) k_ ∧ some k_ ≠ (u3 : Value).ownBlock) (Kd.R_apart' (HO110.out) (Kd.S_typed HO_3.out) (by decide)) (fun k_ hk => ⟨trivial, hk.2⟩))).1 k_ hk_.symm) ?aF ?aO ?aB ?aS ?aL ?_
              (case aP => exact k39_mkM _ _ _ (⟨(rd_T43 l0 x4_1).f0, y108⟩ : S39) (Kd.R_mono (Kd.R_tight rfl (Kd.R_mono (ok' := fun k_ => ((fun _ => True)) k_ ∧ some k_ ≠ (u3 : Value).ownBlock) (Kd.R_apart' (HO110.out) (Kd.S_typed HO_3.out) (by decide)) (fun k_ hk => ⟨trivial, hk.2⟩))) (fun _ h_ => h_)))
              (case aB => exact (by repeat (first | (with_reducible first | exact HB.out | apply below_alloc | apply pw_below_drewN | apply below_drew1) | exact HB.out)))
              (case aF => exact (fun _ _ => trivial))
              (case aO => exact (by (with_reducible repeat (first | apply Kd.S_alloc | apply Kd.S_drewN | apply Kd.S_drew)); exact Kd.S_mono HO_3.out (fun k_ hk => ⟨trivial, fun e_ => hk.2 e_⟩)))
              (case aS => exact (below_size (by repeat (first | (with_reducible first | exact HB.out | apply below_alloc | apply pw_below_drewN | apply below_drew1) | exact HB.out))))
              (case aL => have := LMc5.out; omega)
              intro v112 w11 ho hb hg hat
              rw [← Ny111.out] at ho
              have n0_ := Aside0.mk (hb)
              have n1_ := Aside0.mk (ho)
              clear HB
              clear HO_3
              clear HO110
              have HB := n0_
              have HO113 := n1_
              clear n0_ n1_
              clear ho hb hg hat
              refine hK.out _ _ ⟨((HB.out.cell (World.block_lt_of_cell? w _ hw103_0)).trans hw103_0), ((HB.out.cell (World.block_lt_of_cell? w _ hw103_1)).trans hw103_1), ((HB.out.cell (World.block_lt_of_cell? w _ hw107_0)).trans hw107_0), ((HB.out.cell (World.block_lt_of_cell? w _ hw107_1)).trans hw107_1)⟩ (fun hHeld => ?_)
              clear hK K
              refine norm_ (a' := ?_) ?_ ?_
              rotate_left
              · show Act.put _ (some 26) _ = _
                simp only [Act.put, pA,pB,pC, i64_w, i32_w]
                rfl
              refine pure_ (i := 16) (N := some 3) (v := ?_) (a' := ?_) #[true, true, true, true, true, true, true, true, true, true, true, true, true, true, true, true, true] rfl rfl (any_of HT_.out (by kernel_rfl)) (fun _ _ _ h => h) (Or.inl ⟨by rfl, ?_⟩) ?_ ?_
              rotate_left
              · intro w'
                go_simp
                with_reducible rfl
              rotate_left
              · simp only [Act.put, pA,pB,pC, i64_w, i32_w]
                rfl
              refine done_ (done_of HT_.out (by kernel_rfl)) ?_
              try go_wp2
              go_roundg k1
              case measure => have := HK1.out; omega
              case rel => exact ⟨(y111), (wrap64 (x4_1 + 1)), (by first | rfl | (simp; done) | (simp [*]; done)), H', ⟨by have := HK1.out; omega⟩, ⟨by (with_reducible repeat (first | apply Kd.S_alloc | apply Kd.S_drewN | apply Kd.S_drew)); exact HO113.out⟩, ⟨by repeat (first | (with_reducible first | exact HB.out | apply below_alloc | apply pw_below_drewN | apply below_drew1) | exact HB.out)⟩⟩
            · rw [if_neg c5] at H
              exact absurd H (by simp)
          · rw [if_neg c4] at H
            exact absurd H (by simp)
        · rw [if_neg c3] at H
          exact absurd H (by simp)
      · rw [if_neg c2] at H
        have c2b0 : decide (x4_1 < (l0.length : Int)) = false := decide_eq_false c2
        clear c2
        obtain rfl := Option.some.inj H
        go_wp2
        go_ret
        exact ⟨_, by first | rfl | (simp [errW_none, errW_some] <;> rfl) | (simp [*, errW_none, errW_some] <;> rfl), by (with_reducible repeat (first | apply Kd.S_alloc | apply Kd.S_drewN | apply Kd.S_drew)); exact HO_3.out, by repeat (first | (with_reducible first | exact HB.out | apply below_alloc | apply pw_below_drewN | apply below_drew1) | exact HB.out)⟩
end Go.Proofs.YtbklhcjcgiblkaaDoor.P
end
section
namespace Go.Proofs.YtbklhcjcgiblkaaDoor.P
open Go.RowKit Go.Proofs.YtbklhcjcgiblkaaDoorW.PrintWords Go.Proofs.YtbklhcjcgiblkaaDoorW.PrintLast Go.Proofs.YtbklhcjcgiblkaaDoorW.PrintMore
attribute [local go_sem] max2_int min2_int max_two min_two max_three min_three max_four min_four
set_option linter.unusedVariables false
set_option linter.unusedSimpArgs false
def bellowslaw15_light.l0 : Nat → List (S43) → Int → Option (Bool)
  | 0, _, _ => none
  | k + 1, x0, x3 => if x3 < (x0.length : Int) then (if 0 ≤ x3 then (if (((rd_T43 x0 x3).f1).length : Int) > 200 then (some false) else (if (((rd_T43 x0 x3).f0).size : Int) > 200 then (some false) else (bellowslaw15_light.l0 k x0 (wrap64 (x3 + 1))))) else (none)) else (some true)
def bellowslaw15_light.f (k : Nat) (l0 : List (S43)) : Option (Bool) := if (l0.length : Int) > 10 then (some false) else (bellowslaw15_light.l0 k l0 0)
theorem bellowslaw15_light.mono_l : ∀ k, (∀ y0 y1, LeO (bellowslaw15_light.l0 k y0 y1) (bellowslaw15_light.l0 (k + 1) y0 y1))
  | 0 => fun _ _ r h => by simp [bellowslaw15_light.l0] at h
  | k + 1 => by
    have ih0 := bellowslaw15_light.mono_l k
    · intro y0 y1
      unfold bellowslaw15_light.l0
      repeat' first
      | (with_reducible exact ih0 _ _)
      | (with_reducible exact LeO.refl _)
      | (with_reducible exact LeO.none _)
      | (with_reducible refine LeO.ite ?_ ?_)
      | (with_reducible refine LeO.bind ?_ (fun _ => ?_))
      | exact ih0 _ _
      | exact LeO.none _
      | refine LeO.ite ?_ ?_
      | refine LeO.bind ?_ (fun _ => ?_)
theorem bellowslaw15_light.mono : ∀ a0 k, LeO (bellowslaw15_light.f k a0) (bellowslaw15_light.f (k + 1) a0) := by
  intro a0 k
  have ih0 := bellowslaw15_light.mono_l k
  unfold bellowslaw15_light.f
  repeat' first
      | (with_reducible exact ih0 _ _)
      | (with_reducible exact LeO.refl _)
      | (with_reducible exact LeO.none _)
      | (with_reducible refine LeO.ite ?_ ?_)
      | (with_reducible refine LeO.bind ?_ (fun _ => ?_))
      | exact ih0 _ _
      | exact LeO.none _
      | refine LeO.ite ?_ ?_
      | refine LeO.bind ?_ (fun _ => ?_)
set_option maxHeartbeats 8000000 in
set_option maxRecDepth 100000 in
theorem bellowslaw15_light.calls (k : Nat) (A0 : Option Addr) (c0 : Nat) (l0 : List (S43)) (r : Bool) (w : World) (hr0 : Kd.C k43 w A0 l0.length l0) (hc0 : l0.length ≤ c0) (h : bellowslaw15_light.f k l0 = some r) :
    Calls Tryd.prog 7 #[.slice A0 l0.length c0] w fun e w' => e = .returned (.bool r) ∧ Drawn0 w w' := by
  have HR0 := Aside0.mk hr0
  have HC0 := Aside0.mk hc0
  clear hr0 hc0
  have H : (if (l0.length : Int) > 10 then (some false) else (bellowslaw15_light.l0 k l0 0)) = some r := h
  clear h
  by_cases c2 : (l0.length : Int) > 10
  · rw [if_pos c2] at H
    have c2b0 : decide (10 < (l0.length : Int)) = true := decide_eq_true c2
    have c2b1 : decide (10 < l0.length) = true := decide_eq_true (by omega)
    clear c2
    obtain rfl := Option.some.inj H
    go_enter Tryd.func7, Tryd.ntmps7
    go_wp2
    go_ret
    exact ⟨by first | rfl | (simp; done) | (simp [*]; done), by repeat (first | exact Drawn0.refl _ | apply Drawn0.step)⟩
  · rw [if_neg c2] at H
    have c2b0 : decide (10 < (l0.length : Int)) = false := decide_eq_false c2
    have c2b1 : decide (10 < l0.length) = false := decide_eq_false (by omega)
    clear c2
    have H' := Aside0.mk H
    clear H
    go_enter Tryd.func7, Tryd.ntmps7
    go_wp2
    go_loopg [3] k (fun kq v3 w' => ∃ (x3_1 : Int), v3 = .int .i64 x3_1 ∧ Aside0 (bellowslaw15_light.l0 kq l0 x3_1 = some r) ∧ Aside0 (kq ≤ k) ∧ Drawn0 w w')
    case atStart => exact ⟨(0), (by first | rfl | (simp; done) | (simp [*]; done)), H', ⟨Nat.le_refl _⟩, by repeat (first | exact Drawn0.refl _ | apply Drawn0.step)⟩
    case round =>
      clear H'
      try clear c2
      try clear c2b0
      try clear c2b1
      try clear p2
      obtain ⟨x3_1, rfl, HA, HK1, ⟨m1, rfl⟩⟩ := hrel
      cases gk with
      | zero => exact absurd HA.out (by simp [bellowslaw15_light.l0])
      | succ k1 =>
        have H := HA.out
        clear HA
        simp only [bellowslaw15_light.l0] at H
        by_cases c3 : x3_1 < (l0.length : Int)
        · rw [if_pos c3] at H
          have c3b0 : decide (x3_1 < (l0.length : Int)) = true := decide_eq_true c3
          clear c3
          by_cases c4 : 0 ≤ x3_1
          · rw [if_pos c4] at H
            have c4b0 : decide (0 ≤ x3_1) = true := decide_eq_true c4
            clear c4
            by_cases c5 : (((rd_T43 l0 x3_1).f1).length : Int) > 200
            · rw [if_pos c5] at H
              have c5b0 : decide (200 < (((rd_T43 l0 x3_1).f1).length : Int)) = true := decide_eq_true c5
              have c5b1 : decide (200 < ((rd_T43 l0 x3_1).f1).length) = true := decide_eq_true (by omega)
              clear c5
              obtain rfl := Option.some.inj H
              have p101 : 0 ≤ (x3_1 : Int) := of_decide_eq_true (by first | (with_reducible assumption) | assumption)
              have q101 : x3_1 < (l0.length : Int) := of_decide_eq_true (by first | (with_reducible assumption) | assumption)
              obtain ⟨ad101, A101_1, c101_1, e101, hx101_0, hx101_1, hl101_1, hi101_1⟩ := at_T43 HR0.out x3_1 p101 q101
              cases e101
              have HR101_1 := Aside0.mk hi101_1
              have HC101_1 := Aside0.mk hl101_1
              clear hi101_1 hl101_1
              replace p101 := eq_true p101
              replace q101 := eq_true q101
              go_wp2
              go_ret
              exact ⟨by first | rfl | (simp; done) | (simp [*]; done), by repeat (first | exact Drawn0.refl _ | apply Drawn0.step)⟩
            · rw [if_neg c5] at H
              have c5b0 : decide (200 < (((rd_T43 l0 x3_1).f1).length : Int)) = false := decide_eq_false c5
              have c5b1 : decide (200 < ((rd_T43 l0 x3_1).f1).length) = false := decide_eq_false (by omega)
              clear c5
              by_cases c6 : (((rd_T43 l0 x3_1).f0).size : Int) > 200
              · rw [if_pos c6] at H
                have c6b0 : decide (200 < (((rd_T43 l0 x3_1).f0).size : Int)) = true := decide_eq_true c6
                have c6b1 : decide (200 < ((rd_T43 l0 x3_1).f0).size) = true := decide_eq_true (by omega)
                clear c6
                obtain rfl := Option.some.inj H
                have p101 : 0 ≤ (x3_1 : Int) := of_decide_eq_true (by first | (with_reducible assumption) | assumption)
                have q101 : x3_1 < (l0.length : Int) := of_decide_eq_true (by first | (with_reducible assumption) | assumption)
                obtain ⟨ad101, A101_1, c101_1, e101, hx101_0, hx101_1, hl101_1, hi101_1⟩ := at_T43 HR0.out x3_1 p101 q101
                cases e101
                have HR101_1 := Aside0.mk hi101_1
                have HC101_1 := Aside0.mk hl101_1
                clear hi101_1 hl101_1
                replace p101 := eq_true p101
                replace q101 := eq_true q101
                have p102 : 0 ≤ (x3_1 : Int) := of_decide_eq_true (by first | (with_reducible assumption) | assumption)
                have q102 : x3_1 < (l0.length : Int) := of_decide_eq_true (by first | (with_reducible assumption) | assumption)
                obtain ⟨ad102, A102_1, c102_1, e102, hx102_0, hx102_1, hl102_1, hi102_1⟩ := at_T43 HR0.out x3_1 p102 q102
                obtain rfl : ad101 = ad102 := (by injection e102)
                have HR102_1 := Aside0.mk hi102_1
                have HC102_1 := Aside0.mk hl102_1
                clear hi102_1 hl102_1
                replace p102 := eq_true p102
                replace q102 := eq_true q102
                have ea_ := Option.some.inj (hx101_1.symm.trans hx102_1)
                injection ea_ with ea_ en_ ec_
                subst ea_
                subst ec_
                clear en_
                go_wp2
                go_ret
                exact ⟨by first | rfl | (simp; done) | (simp [*]; done), by repeat (first | exact Drawn0.refl _ | apply Drawn0.step)⟩
              · rw [if_neg c6] at H
                have c6b0 : decide (200 < (((rd_T43 l0 x3_1).f0).size : Int)) = false := decide_eq_false c6
                have c6b1 : decide (200 < ((rd_T43 l0 x3_1).f0).size) = false := decide_eq_false (by omega)
                clear c6
                have H' := Aside0.mk H
                clear H
                have p101 : 0 ≤ (x3_1 : Int) := of_decide_eq_true (by first | (with_reducible assumption) | assumption)
                have q101 : x3_1 < (l0.length : Int) := of_decide_eq_true (by first | (with_reducible assumption) | assumption)
                obtain ⟨ad101, A101_1, c101_1, e101, hx101_0, hx101_1, hl101_1, hi101_1⟩ := at_T43 HR0.out x3_1 p101 q101
                cases e101
                have HR101_1 := Aside0.mk hi101_1
                have HC101_1 := Aside0.mk hl101_1
                clear hi101_1 hl101_1
                replace p101 := eq_true p101
                replace q101 := eq_true q101
                have p102 : 0 ≤ (x3_1 : Int) := of_decide_eq_true (by first | (with_reducible assumption) | assumption)
                have q102 : x3_1 < (l0.length : Int) := of_decide_eq_true (by first | (with_reducible assumption) | assumption)
                obtain ⟨ad102, A102_1, c102_1, e102, hx102_0, hx102_1, hl102_1, hi102_1⟩ := at_T43 HR0.out x3_1 p102 q102
                obtain rfl : ad101 = ad102 := (by injection e102)
                have HR102_1 := Aside0.mk hi102_1
                have HC102_1 := Aside0.mk hl102_1
                clear hi102_1 hl102_1
                replace p102 := eq_true p102
                replace q102 := eq_true q102
                have ea_ := Option.some.inj (hx101_1.symm.trans hx102_1)
                injection ea_ with ea_ en_ ec_
                subst ea_
                subst ec_
                clear en_
                go_wp2
                go_roundg k1
                case measure => have := HK1.out; omega
                case rel => exact ⟨(wrap64 (x3_1 + 1)), (by first | rfl | (simp; done) | (simp [*]; done)), H', ⟨by have := HK1.out; omega⟩, by repeat (first | exact Drawn0.refl _ | apply Drawn0.step)⟩
          · rw [if_neg c4] at H
            exact absurd H (by simp)
        · rw [if_neg c3] at H
          have c3b0 : decide (x3_1 < (l0.length : Int)) = false := decide_eq_false c3
          clear c3
          obtain rfl := Option.some.inj H
          go_wp2
          go_ret
          exact ⟨by first | rfl | (simp; done) | (simp [*]; done), by repeat (first | exact Drawn0.refl _ | apply Drawn0.step)⟩
end Go.Proofs.YtbklhcjcgiblkaaDoor.P
end
section
set_option linter.unusedSimpArgs false
set_option linter.unusedVariables false
namespace Go.Proofs.YtbklhcjcgiblkaaDoor.Ck
open Go.RowKit Go.Lib Go.Shelf Go.Maps Go.Proofs.YtbklhcjcgiblkaaDoorW.PrintWords Go.Proofs.YtbklhcjcgiblkaaDoorW.PrintLast Go.Proofs.YtbklhcjcgiblkaaDoorW.PrintMore Go.Proofs.YtbklhcjcgiblkaaDoor.U Go.Proofs.YtbklhcjcgiblkaaDoor.P Go.Proofs.YtbklhcjcgiblkaaDoor.PTh Go.Proofs.YtbklhcjcgiblkaaDoor.MapV
structure DishAt (w : World) (base db : Nat) (A : Option Addr) (n c : Nat) (names : List Txt) (b : Txt) (once : Bool) (dep deps : Txt) : Prop where
  h : w.heap[db]? = some (.cells #[.slice A n c, .bool once, .string (B dep), .string (B deps)] 34 (0, 0))
  o : OutsAt w base (.slice A n c) names b
  n : names.length = n
theorem DishAt.below {w w' : World} {base db : Nat} {A : Option Addr} {n c : Nat} {names : List Txt} {b : Txt} {once : Bool} {dep deps : Txt} (h : DishAt w base db A n c names b once dep deps) (hb : Below w.heap.size w w') : DishAt w' base db A n c names b once dep deps :=
  ⟨(hb.block _ (Array.getElem?_eq_some_iff.1 h.h).1).trans h.h, h.o.move (fun k _ h2 => hb.block k h2), h.n⟩
theorem DishAt.at_ {w : World} {base db : Nat} {A : Option Addr} {n c : Nat} {names : List Txt} {b : Txt} {once : Bool} {dep deps : Txt} (h : DishAt w base db A n c names b once dep deps) (i : Nat) (hi : i < n) : ∃ ad Ai ci, A = some ad ∧
    w.cell? ⟨(ad.add (i * 2)).block, (ad.add (i * 2)).off + 1, none⟩ = some (.slice Ai b.length ci) ∧ (convert 24 9 (.slice Ai b.length ci)).run Tryd.prog w = .ok (.string (B b)) w ∧ (Kd.int .u8).C w Ai b.length (ints b) ∧ w.cell? (ad.add (i * 2)) = some (.string (B (names.getD i []))) := by
  obtain ⟨A', c', he, hl, hC⟩ := h.o.C
  injection he with he _ he2
  subst he he2
  have hiN : i < (names.map fun n => (⟨n, b⟩ : FileL)).length := by rw [List.length_map, h.n]; exact hi
  obtain ⟨ad, A1, c1, rfl, k0, k1, l1, g1⟩ := file_at (fs := names.map fun n => ⟨n, b⟩) (by rw [List.map_map]; exact hC) i hiN
  rw [List.getElem_map] at k0 k1 l1 g1
  have hin : i < names.length := by rw [h.n]; exact hi
  refine ⟨ad, A1, c1, rfl, k1, conv_txt g1, g1, ?_⟩
  rw [k0, List.getD_eq_getElem?_getD, List.getElem?_eq_getElem hin]; rfl
theorem DishAt.first {w : World} {base db : Nat} {A : Option Addr} {n c : Nat} {names : List Txt} {b : Txt} {once : Bool} {dep deps : Txt} (h : DishAt w base db A n c names b once dep deps) (hi : 0 < n) : ∃ ad Ai ci, A = some ad ∧
    w.cell? ⟨ad.block, ad.off + 1, none⟩ = some (.slice Ai b.length ci) ∧ (convert 24 9 (.slice Ai b.length ci)).run Tryd.prog w = .ok (.string (B b)) w := by
  obtain ⟨ad, Ai, ci, rfl, h1, h2, _, _⟩ := h.at_ 0 hi
  have e0 : ad.add (0 * 2) = ad := by simp [Addr.add]
  rw [e0] at h1
  exact ⟨ad, Ai, ci, rfl, h1, h2⟩
end Go.Proofs.YtbklhcjcgiblkaaDoor.Ck
end
section
set_option linter.unusedSimpArgs false
set_option linter.unusedVariables false
namespace Go.Proofs.YtbklhcjcgiblkaaDoor.Ck
open Go.RowKit Go.Lib Go.Shelf Go.Maps Go.Proofs.YtbklhcjcgiblkaaDoorW.PrintWords Go.Proofs.YtbklhcjcgiblkaaDoorW.PrintLast Go.Proofs.YtbklhcjcgiblkaaDoorW.PrintMore Go.Proofs.YtbklhcjcgiblkaaDoor.U Go.Proofs.YtbklhcjcgiblkaaDoor.P Go.Proofs.YtbklhcjcgiblkaaDoor.PTh Go.Proofs.YtbklhcjcgiblkaaDoor.MapV
def chB (i : Nat) : UInt8 := UInt8.ofNat (97 + i)
def moreB (n : Nat) (itself : Bool) (i : Nat) : Txt := if i < n then [35, 105, 110, 99, 108, 117, 100, 101, 32, 102, chB (i + 1), 10, 46] else if itself then [35, 105, 110, 99, 108, 117, 100, 101, 32, 102, 97] else []
def deepF (n : Nat) (itself : Bool) (i : Nat) : FileL := ⟨[102, chB i], [chB i, 10] ++ moreB n itself i⟩
def deepFs (n : Nat) (itself : Bool) (k : Nat) : List FileL := (List.range k).map (deepF n itself)
def wantT : Nat → Txt
  | 0 => []
  | k + 1 => wantT k ++ [chB k, 10]
def depsT : Nat → Txt
  | 0 => [111, 58]
  | k + 1 => if k = 0 then depsT k else depsT k ++ [32, 102, chB k]
def deepWant (n : Nat) (itself : Bool) : Option DishL := if itself = true ∨ 10 < n then none else some ⟨[⟨[111], wantT (n + 1) ++ List.replicate n 46⟩], false, [111, 46, 100], depsT (n + 1) ++ [10]⟩
def deepOk (n : Nat) (itself : Bool) : Bool := decide (cookE [105, 110, 99, 32, 102, 97, 32, 62, 32, 111, 32, 58, 32, 111, 46, 100] ⟨[[102, 97]], deepFs n itself (n + 1)⟩ = deepWant n itself)
theorem deep_all : ((List.range 14).all fun n => deepOk n true && deepOk n false) = true := by decide +kernel
theorem deep_plain (n : Nat) (hn : n < 14) (itself : Bool) : cookE [105, 110, 99, 32, 102, 97, 32, 62, 32, 111, 32, 58, 32, 111, 46, 100] ⟨[[102, 97]], deepFs n itself (n + 1)⟩ = deepWant n itself := by
  have h := List.all_eq_true.1 deep_all n (List.mem_range.2 hn)
  rw [Bool.and_eq_true] at h
  cases itself with
  | true => exact of_decide_eq_true h.1
  | false => exact of_decide_eq_true h.2
theorem chB_int (i : Nat) (h : i < 100) : ((chB i).toNat : Int) = 97 + (i : Int) := by
  unfold chB
  rw [UInt8.toNat_ofNat']
  omega
theorem deepF_len (n : Nat) (itself : Bool) (i : Nat) : (deepF n itself i).b.length ≤ 100 := by
  show ([chB i, 10] ++ moreB n itself i).length ≤ 100
  unfold moreB
  split
  · simp
  · split <;> simp
theorem wantT_len : ∀ k, (wantT k).length = 2 * k
  | 0 => rfl
  | k + 1 => by rw [wantT, List.length_append, wantT_len k]; simp; omega
theorem depsT_len : ∀ k, (depsT k).length ≤ 2 + 3 * k
  | 0 => by decide
  | k + 1 => by
    rw [depsT]
    split
    · have := depsT_len k; omega
    · rw [List.length_append]; have := depsT_len k; simp; omega
def FilesAt (w : World) (base : Nat) (v : Value) (fs : List FileL) : Prop :=
  ∃ f : Nat → Value, w.ownsRow base 39 2 v fs.length (ocells f 0 (fs.map FileL.n)) ∧ ∀ (j : Nat) (h : j < fs.length), w.ownsRow base 5 1 (f j) fs[j].b.length (bcells fs[j].b)
theorem FilesAt.nil (w : World) (base : Nat) : FilesAt w base (.slice none 0 0) [] := ⟨fun _ => undef, World.ownsRow_nil _ _ _ _, fun j h => absurd h (by simp)⟩
theorem FilesAt.below {w w' : World} {base : Nat} {v : Value} {fs : List FileL} (h : FilesAt w base v fs) (hb : Below w.heap.size w w') : FilesAt w' base v fs := by
  obtain ⟨f, ho, hr⟩ := h
  exact ⟨f, own_move ho (fun k e => hb.block k (own_lt ho k e)), fun j hj => own_move (hr j hj) (fun k e => hb.block k (own_lt (hr j hj) k e))⟩
theorem FilesAt.push {w4 w8 : World} {base : Nat} {v v4 v8 : Value} {fs : List FileL} {x : FileL} {f : Nat → Value} (ho4 : w4.ownsRow base 39 2 v fs.length (ocells f 0 (fs.map FileL.n))) (hr : ∀ (j : Nat) (h : j < fs.length), w4.ownsRow base 5 1 (f j) fs[j].b.length (bcells fs[j].b))
    (h4 : w4.ownsRow base 5 1 v4 x.b.length (bcells x.b)) (hg : w4.grownBy w8 v.ownBlock) (h8 : w8.ownsRow base 39 2 v8 (fs.length + 1) (ocells f 0 (fs.map FileL.n) ++ [.string (B x.n), v4])) : FilesAt w8 base v8 (fs ++ [x]) := by
  have hne : ∀ (v' : Value) (b : Txt), w4.ownsRow base 5 1 v' b.length (bcells b) → ∀ k, v'.ownBlock = some k → some k ≠ v.ownBlock := fun v' b h' k e e2 => by
    obtain ⟨cs, e1⟩ := own_typed ho4 k e2.symm
    obtain ⟨cs2, e2⟩ := own_typed h' k e
    rw [e1] at e2
    injection e2 with e2
    injection e2 with _ e2 _
    exact absurd e2 (by decide)
  let f' : Nat → Value := fun j => if j < fs.length then f j else v4
  have hf : ocells f' 0 (fs.map FileL.n) = ocells f 0 (fs.map FileL.n) := ocells_ext _ _ _ _ (fun j _ h2 => by simp only [f']; rw [List.length_map] at h2; rw [if_pos (by omega)])
  refine ⟨f', ?_, fun j hj => ?_⟩
  · rw [List.map_append, List.map_cons, List.map_nil, ocells_append, hf, List.length_append, List.length_singleton]
    have e : f' (0 + (fs.map FileL.n).length) = v4 := by simp only [f']; rw [List.length_map, if_neg (by omega)]
    rw [e]
    exact h8
  · by_cases h1 : j < fs.length
    · have e : f' j = f j := by simp only [f']; rw [if_pos h1]
      have e2 : (fs ++ [x])[j] = fs[j] := List.getElem_append_left h1
      rw [e, e2]
      exact own_move (hr j h1) (fun k e => hg.block k (own_lt (hr j h1) k e) (hne _ _ (hr j h1) k e))
    · have e : f' j = v4 := by simp only [f']; rw [if_neg h1]
      have e2 : (fs ++ [x])[j] = x := by
        obtain rfl : j = fs.length := by simp at hj; omega
        simp
      rw [e, e2]
      exact own_move h4 (fun k e => hg.block k (own_lt h4 k e) (hne _ _ h4 k e))
theorem FilesAt.C {w : World} {base : Nat} {A : Option Addr} {n c : Nat} {fs : List FileL} (h : FilesAt w base (.slice A n c) fs) (hn : fs.length = n) : n ≤ c ∧ Kd.C KF w A (fs.map toF).length (fs.map toF) := by
  obtain ⟨f, ho, hr⟩ := h
  obtain ⟨A', c', he, hl, hC⟩ := OwnRow.reads (R := KF.K w) (e := 39) (base := base) (size := 2) (w := w) (v := .slice A n c) (ps := fs.map toF) ⟨ocells f 0 (fs.map FileL.n), by rw [List.length_map]; exact ho, by rw [ocells_len, List.length_map, List.length_map], fun j p hp => by
    rw [List.getElem?_map] at hp
    obtain ⟨x, hx, rfl⟩ := Option.map_eq_some_iff.1 hp
    obtain ⟨hj, rfl⟩ := List.getElem?_eq_some_iff.1 hx
    obtain ⟨A0, c0, e0, l0, g0⟩ := own_reads (hr j hj)
    have := ocells_at f (fs.map FileL.n) 0 j (by rw [List.length_map]; exact hj)
    rw [Nat.zero_add, e0, List.getElem_map] at this
    rw [this]
    have hl : (toF fs[j]).f1.length = fs[j].b.length := ints_len fs[j].b
    have := k39_mk w (toF fs[j]) (A1 := A0) (c1 := c0) (by rw [hl]; exact l0) (by rw [hl]; exact g0)
    rw [hl] at this
    exact this⟩
  injection he with he1 he2 he3
  subst he1 he3
  rw [List.length_map, hn] at hl
  exact ⟨hl, hC⟩
end Go.Proofs.YtbklhcjcgiblkaaDoor.Ck
end
section
set_option linter.unusedSimpArgs false
set_option linter.unusedVariables false
namespace Go.Proofs.YtbklhcjcgiblkaaDoor.Ck
open Go.RowKit Go.Lib Go.Shelf Go.Maps Go.Proofs.YtbklhcjcgiblkaaDoorW.PrintWords Go.Proofs.YtbklhcjcgiblkaaDoorW.PrintLast Go.Proofs.YtbklhcjcgiblkaaDoorW.PrintMore Go.Proofs.YtbklhcjcgiblkaaDoor.U Go.Proofs.YtbklhcjcgiblkaaDoor.P Go.Proofs.YtbklhcjcgiblkaaDoor.PTh Go.Proofs.YtbklhcjcgiblkaaDoor.MapV
theorem DishAt.firstC {w : World} {base db : Nat} {A : Option Addr} {n c : Nat} {names : List Txt} {b : Txt} {once : Bool} {dep deps : Txt} (h : DishAt w base db A n c names b once dep deps) (hi : 0 < n) : ∃ ad Ai ci, A = some ad ∧
    w.cell? ⟨ad.block, ad.off + 1, none⟩ = some (.slice Ai b.length ci) ∧ (Kd.int .u8).C w Ai b.length (ints b) := by
  obtain ⟨ad, Ai, ci, rfl, h1, _, h2, _⟩ := h.at_ 0 hi
  have e0 : ad.add (0 * 2) = ad := by simp [Addr.add]
  rw [e0] at h1
  exact ⟨ad, Ai, ci, rfl, h1, h2⟩
end Go.Proofs.YtbklhcjcgiblkaaDoor.Ck
end
