/- What bellowslaw10.built keeps: three scopes, six rows. -/
import Derived.Test.YtlpjhpdgjeiioaaScopeHides0
import Derived.Test.YtlpjhpdgjeiioaaRowSets
import Derived.Test.YtlpjhpdgjeiioaaPBellowsref10Name0
import Derived.OwnWalk
import Derived.Laws.AppendOwn
import Derived.Deep.AppendLies
import Derived.Deep.RegionHeld3
set_option linter.unusedSimpArgs false
set_option linter.unusedVariables false
namespace Go.Proofs.Ytlpjhpdgjeiioaa.Sc
open Go.RowKit Go.Lib Go.Shelf Go.Maps Go.Proofs.YtlpjhpdgjeiioaaW.PrintWords Go.Proofs.Ytlpjhpdgjeiioaa.U Go.Proofs.Ytlpjhpdgjeiioaa.Idx Go.Proofs.Ytlpjhpdgjeiioaa.Bld

/-- The three scopes' maps, and the names and texts that were set, by level. -/
structure St where
  m : Nat → MapL
  ns : Nat → List Txt
  ts : Nat → List Txt
def St.init : St := ⟨fun _ => none0, fun _ => [], fun _ => []⟩
def kOf (s : SetT) : Nat := (s.lev.toNat) % 3
def St.put (st : St) (k : Nat) (nm tx : Txt) : St :=
  ⟨fun j => if j = k then upd (st.m k) nm tx else st.m j, fun j => if j = k then st.ns k ++ [nm] else st.ns j, fun j => if j = k then st.ts k ++ [tx] else st.ts j⟩
def St.step (st : St) (s : SetT) : St := if nameL s.name = true then st.put (kOf s) s.name s.text else st
def builtS (l : List SetT) : St := l.foldl St.step St.init
/-- The three scopes, the lowest first: blocks from S on. -/
def levs (S i : Nat) (st : St) : List Lev := [⟨S + 5, S + 4, i, st.m 0⟩, ⟨S + 3, S + 2, i, st.m 1⟩, ⟨S + 1, S, i, st.m 2⟩]
structure Tri (S i : Nat) (st : St) (w : World) : Prop where
  b0 : w.heap[S + 5]? = some (.cells #[.pointer (some ⟨S + 3, 0, none⟩), .map (some (S + 4))] 66 (0, 0))
  b1 : w.heap[S + 3]? = some (.cells #[.pointer (some ⟨S + 1, 0, none⟩), .map (some (S + 2))] 66 (0, 0))
  b2 : w.heap[S + 1]? = some (.cells #[.pointer none, .map (some S)] 66 (0, 0))
  m0 : OwnsM w (S + 4) i (st.m 0)
  m1 : OwnsM w (S + 2) i (st.m 1)
  m2 : OwnsM w S i (st.m 2)
theorem Tri.chain {S i : Nat} {st : St} {w : World} (h : Tri S i st w) : Chain w (levs S i st) (.pointer (some ⟨S + 5, 0, none⟩)) :=
  ⟨rfl, _, h.b0, h.m0, ⟨rfl, _, h.b1, h.m1, ⟨rfl, _, h.b2, h.m2, rfl⟩⟩⟩
/-- A block that is no map of the three is as it was, and the maps grow by one entry at most. -/
theorem Tri.keep {S i : Nat} {st : St} {w w' : World} (h : Tri S i st w) (hk : ∀ b, S ≤ b → b ≤ S + 5 → w'.heap[b]? = w.heap[b]?) : Tri S i st w' :=
  ⟨(hk _ (by omega) (by omega)).trans h.b0, (hk _ (by omega) (by omega)).trans h.b1, (hk _ (by omega) (by omega)).trans h.b2, h.m0.same (hk _ (by omega) (by omega)), h.m1.same (hk _ (by omega) (by omega)), h.m2.same (hk _ (by omega) (by omega))⟩
theorem Tri.more {S i : Nat} {st : St} {w : World} (h : Tri S i st w) : Tri S (i + 1) st w :=
  ⟨h.b0, h.b1, h.b2, h.m0.mono (Nat.le_succ _), h.m1.mono (Nat.le_succ _), h.m2.mono (Nat.le_succ _)⟩
theorem Tri.lt {S i : Nat} {st : St} {w : World} (h : Tri S i st w) : S + 5 < w.heap.size := (Array.getElem?_eq_some_iff.1 h.b0).1
/-- The scope of level k. -/
def bOf (S k : Nat) : Nat := S + 5 - 2 * k
def mOf (S k : Nat) : Nat := S + 4 - 2 * k
def levOf (S i : Nat) (st : St) (k : Nat) : Lev := ⟨bOf S k, mOf S k, i, st.m k⟩
theorem three {k : Nat} (h : k < 3) : k = 0 ∨ k = 1 ∨ k = 2 := by omega
theorem Tri.at {S i : Nat} {st : St} {w : World} (h : Tri S i st w) (k : Nat) (hk : k < 3) : ∃ r, Chain w (levOf S i st k :: r) (.pointer (some ⟨bOf S k, 0, none⟩)) := by
  rcases three hk with rfl | rfl | rfl
  · exact ⟨_, h.chain⟩
  · exact ⟨[⟨S + 1, S, i, st.m 2⟩], ⟨rfl, _, h.b1, h.m1, ⟨rfl, _, h.b2, h.m2, rfl⟩⟩⟩
  · exact ⟨[], ⟨rfl, _, h.b2, h.m2, rfl⟩⟩
theorem Tri.stored {S i : Nat} {st : St} {w w' : World} (h : Tri S i st w) (k : Nat) (hk : k < 3) (nm tx : Txt) (hs : Stored w w' (levOf S i st k) nm tx) : Tri S (i + 1) (st.put k nm tx) w' := by
  have hlt := h.lt
  obtain ⟨w1, g1, g2, g3⟩ := hs
  have hz := g1.size
  have keep : ∀ b, b ≤ S + 5 → b ≠ mOf S k → w'.heap[b]? = w.heap[b]? := fun b hb hne =>
    (g2.block b (by omega) (fun e => hne (by injection e))).trans (g1.block b (by omega))
  have g3' : OwnsM w' (mOf S k) (i + 1) (upd (st.m k) nm tx) := g3
  rcases three hk with rfl | rfl | rfl
  · refine ⟨(keep _ (by omega) (by simp [mOf])).trans h.b0, (keep _ (by omega) (by simp [mOf])).trans h.b1, (keep _ (by omega) (by simp [mOf])).trans h.b2, ?_, ?_, ?_⟩
    · simpa [St.put, mOf] using g3'
    · simpa [St.put] using (h.m1.same (keep _ (by omega) (by simp [mOf]))).mono (Nat.le_succ i)
    · simpa [St.put] using (h.m2.same (keep _ (by omega) (by simp [mOf]))).mono (Nat.le_succ i)
  · refine ⟨(keep _ (by omega) (by simp [mOf])).trans h.b0, (keep _ (by omega) (by simp [mOf])).trans h.b1, (keep _ (by omega) (by simp [mOf])).trans h.b2, ?_, ?_, ?_⟩
    · simpa [St.put] using (h.m0.same (keep _ (by omega) (by simp [mOf]))).mono (Nat.le_succ i)
    · simpa [St.put, mOf] using g3'
    · simpa [St.put] using (h.m2.same (keep _ (by omega) (by simp [mOf]))).mono (Nat.le_succ i)
  · refine ⟨(keep _ (by omega) (by simp [mOf])).trans h.b0, (keep _ (by omega) (by simp [mOf])).trans h.b1, (keep _ (by omega) (by simp [mOf])).trans h.b2, ?_, ?_, ?_⟩
    · simpa [St.put] using (h.m0.same (keep _ (by omega) (by simp [mOf]))).mono (Nat.le_succ i)
    · simpa [St.put] using (h.m1.same (keep _ (by omega) (by simp [mOf]))).mono (Nat.le_succ i)
    · simpa [St.put, mOf] using g3'
/-- The document's three scopes: the block of six rows, and the rows. -/
def rowOf (st : St) (j : Nat) : List Txt := if j % 2 = 0 then st.ns (j / 2) else st.ts (j / 2)
structure Six (S : Nat) (st : St) (V : Nat → Value) (w : World) : Prop where
  blk : w.heap[S + 7]? = some (.cells #[V 0, V 1, V 2, V 3, V 4, V 5] 50 (0, 0))
  own : ∀ j, j < 6 → w.ownsRow (S + 8) 9 1 (V j) (rowOf st j).length ((rowOf st j).map fun t => Value.string (B t))
  apart : ∀ i j, i < 6 → j < 6 → i ≠ j → ∀ b, (V i).ownBlock = some b → (V j).ownBlock ≠ some b
theorem Six.cell {S : Nat} {st : St} {V : Nat → Value} {w : World} (h : Six S st V w) (j : Nat) (hj : j < 6) : w.cell? ⟨S + 7, j, none⟩ = some (V j) ∧ w.frozen? ⟨S + 7, j, none⟩ = false := by
  refine ⟨?_, frozen_of_heap h.blk j⟩
  rw [cell_of_heap h.blk]
  rcases (show j = 0 ∨ j = 1 ∨ j = 2 ∨ j = 3 ∨ j = 4 ∨ j = 5 by omega) with rfl | rfl | rfl | rfl | rfl | rfl <;> rfl
theorem Six.keep {S : Nat} {st : St} {V : Nat → Value} {w w' : World} (h : Six S st V w) (hg : w.grownBy w' none) : Six S st V w' :=
  ⟨(hg.block _ (Array.getElem?_eq_some_iff.1 h.blk).1 (by simp)).trans h.blk, fun j hj => (h.own j hj).kept hg (Classical.em _), h.apart⟩
theorem St.put_row (st : St) (k : Nat) (nm tx : Txt) (j : Nat) : rowOf (st.put k nm tx) j = if j = 2 * k then st.ns k ++ [nm] else if j = 2 * k + 1 then st.ts k ++ [tx] else rowOf st j := by
  unfold rowOf St.put
  by_cases h0 : j % 2 = 0
  · simp only [h0, if_true]
    by_cases h1 : j / 2 = k
    · rw [if_pos h1, if_pos (by omega)]
    · rw [if_neg h1, if_neg (by omega), if_neg (by omega)]
  · simp only [h0, if_false]
    by_cases h1 : j / 2 = k
    · rw [if_pos h1, if_neg (by omega), if_pos (by omega)]
    · rw [if_neg h1, if_neg (by omega), if_neg (by omega)]
theorem Six.len {S : Nat} {st : St} {V : Nat → Value} {w : World} (h : Six S st V w) (j : Nat) (hj : j < 6) : ∀ b, (V j).ownBlock = some b → S + 8 ≤ b ∧ b < w.heap.size := fun b hb => (h.own j hj).lt b hb
def setRows (V : Nat → Value) (k : Nat) (a b : Value) : Nat → Value := fun j => if j = 2 * k then a else if j = 2 * k + 1 then b else V j
/-- The world behind the eight blocks that built makes first. -/
def initW (w : World) : World :=
  (((((((w.alloc (.map #[] 0)).alloc (.cells #[.pointer none, .map (some w.heap.size)] 66)).alloc (.map #[] 0)).alloc
    (.cells #[.pointer (some ⟨w.heap.size + 1, 0, none⟩), .map (some (w.heap.size + 2))] 66)).alloc (.map #[] 0)).alloc
    (.cells #[.pointer (some ⟨w.heap.size + 3, 0, none⟩), .map (some (w.heap.size + 4))] 66)).alloc
    (.cells #[.pointer (some ⟨w.heap.size + 5, 0, none⟩), .pointer (some ⟨w.heap.size + 3, 0, none⟩), .pointer (some ⟨w.heap.size + 1, 0, none⟩)] 24)).alloc
    (.cells #[.slice none 0 0, .slice none 0 0, .slice none 0 0, .slice none 0 0, .slice none 0 0, .slice none 0 0] 50)
theorem heap_two {w : World} {o : Obj} {k : Nat} {x : Obj} (h : w.heap[k]? = some x) : (w.alloc o).heap[k]? = some x := by
  rw [Below.heap_alloc _ _ _ (Array.getElem?_eq_some_iff.1 h).1]; exact h
theorem heap_at {w : World} {o : Obj} {k : Nat} (h : w.heap.size = k) : (w.alloc o).heap[k]? = some o := by rw [← h]; exact heap_alloc_new w _
theorem OwnsM.of_empty {w : World} {b : Nat} (h : w.heap[b]? = some (.map #[] 0)) : OwnsM w b 0 none0 := by
  obtain ⟨D, ⟨es, clock, h1, h2⟩, r⟩ := OwnsM.made w
  rw [show (w.alloc (.map #[] 0)).heap[w.heap.size]? = some (.map #[] 0) from heap_at rfl] at h1
  cases h1
  exact ⟨D, ⟨_, _, h, h2⟩, r⟩
theorem init_facts (w : World) : (initW w).heap.size = w.heap.size + 8 ∧ Below w.heap.size w (initW w) ∧ Tri w.heap.size 0 St.init (initW w) ∧ Six w.heap.size St.init (fun _ => .slice none 0 0) (initW w) ∧
    (initW w).heap[w.heap.size + 6]? = some (.cells #[.pointer (some ⟨w.heap.size + 5, 0, none⟩), .pointer (some ⟨w.heap.size + 3, 0, none⟩), .pointer (some ⟨w.heap.size + 1, 0, none⟩)] 24 (0, 0)) := by
  have hs : (initW w).heap.size = w.heap.size + 8 := by simp [initW]
  refine ⟨hs, ?_, ⟨?_, ?_, ?_, ?_, ?_, ?_⟩, ⟨?_, fun j _ => by (have e : rowOf St.init j = [] := by (unfold rowOf St.init; split <;> rfl)); rw [e]; exact own_nil _ _ _ _, fun i j _ _ _ b hb => by simp [Value.ownBlock] at hb⟩, ?_⟩
  · unfold initW
    exact (((((((((Below.refl _ w).alloc (Nat.le_refl _) _).alloc (by simp) _).alloc (by simp; omega) _).alloc (by simp; omega) _).alloc (by simp; omega) _).alloc (by simp; omega) _).alloc (by simp; omega) _).alloc (by simp; omega) _)
  · exact heap_two (heap_two (heap_at (by simp)))
  · exact heap_two (heap_two (heap_two (heap_two (heap_at (by simp)))))
  · exact heap_two (heap_two (heap_two (heap_two (heap_two (heap_two (heap_at (by simp)))))))
  · exact OwnsM.of_empty (heap_two (heap_two (heap_two (heap_at (by simp)))))
  · exact OwnsM.of_empty (heap_two (heap_two (heap_two (heap_two (heap_two (heap_at (by simp)))))))
  · exact OwnsM.of_empty (heap_two (heap_two (heap_two (heap_two (heap_two (heap_two (heap_two (heap_at rfl))))))))
  · exact heap_at (by simp)
  · exact heap_two (heap_at (by simp))
theorem Tri.drew {S i : Nat} {st : St} {w : World} (h : Tri S i st w) : Tri S i st w.drew := h.keep fun _ _ _ => rfl
theorem Six.drew {S : Nat} {st : St} {V : Nat → Value} {w : World} (h : Six S st V w) : Six S st V w.drew := ⟨h.blk, fun j hj => (h.own j hj).drew, h.apart⟩
theorem Six.stored {S : Nat} {st : St} {V : Nat → Value} {w w' : World} {s : Lev} {nm tx : Txt} (h : Six S st V w) (hs : Stored w w' s nm tx) (hb : s.bm ≤ S + 5) : Six S st V w' := by
  obtain ⟨w1, g1, g2, _⟩ := hs
  have hg : w.grownBy w1 none := ⟨g1.os, g1.tape, g1.output, g1.size, fun k hk _ => g1.block k hk⟩
  have h1 := h.keep hg
  refine ⟨(g2.block _ (Array.getElem?_eq_some_iff.1 h1.blk).1 (fun e => by injection e with e; omega)).trans h1.blk, fun j hj => (h1.own j hj).kept g2 (.inr fun e => ?_), h.apart⟩
  have := (h1.own j hj).lt _ e
  omega
theorem stored_block {w w' : World} {s : Lev} {nm tx : Txt} (hs : Stored w w' s nm tx) (b : Nat) (hb : b < w.heap.size) (hne : b ≠ s.bm) : w'.heap[b]? = w.heap[b]? := by
  obtain ⟨w1, g1, g2, _⟩ := hs
  exact (g2.block b (Nat.lt_of_lt_of_le hb g1.size) (fun e => hne (by injection e))).trans (g1.block b hb)
structure All (S i : Nat) (st st2 : St) (V : Nat → Value) (w0 w : World) : Prop where
  tri : Tri S i st w
  six : Six S st2 V w
  al : w.heap[S + 6]? = some (.cells #[.pointer (some ⟨S + 5, 0, none⟩), .pointer (some ⟨S + 3, 0, none⟩), .pointer (some ⟨S + 1, 0, none⟩)] 24 (0, 0))
  bel : Below S w0 w
theorem All.below {S i : Nat} {st st2 : St} {V : Nat → Value} {w0 w w' : World} (h : All S i st st2 V w0 w) (hb : Below w.heap.size w w') : All S i st st2 V w0 w' := by
  have hlt := h.tri.lt
  refine ⟨h.tri.keep fun b _ hb' => hb.block b (by omega), h.six.keep ⟨hb.os, hb.tape, hb.output, hb.size, fun k hk _ => hb.block k hk⟩, (hb.block _ (Array.getElem?_eq_some_iff.1 h.al).1).trans h.al, h.bel.trans (hb.mono (by omega))⟩
/-- Between the appends and the stores: the six rows X as the values V, the block's cells as f. -/
structure Pre (S i : Nat) (st : St) (X : Nat → List Txt) (V f : Nat → Value) (w0 w : World) : Prop where
  tri : Tri S i st w
  al : w.heap[S + 6]? = some (.cells #[.pointer (some ⟨S + 5, 0, none⟩), .pointer (some ⟨S + 3, 0, none⟩), .pointer (some ⟨S + 1, 0, none⟩)] 24 (0, 0))
  bel : Below S w0 w
  blk : w.heap[S + 7]? = some (.cells #[f 0, f 1, f 2, f 3, f 4, f 5] 50 (0, 0))
  own : ∀ j, j < 6 → w.ownsRow (S + 8) 9 1 (V j) (X j).length ((X j).map fun t => Value.string (B t))
  apart : ∀ i j, i < 6 → j < 6 → i ≠ j → ∀ b, (V i).ownBlock = some b → (V j).ownBlock ≠ some b
section
variable {S i : Nat} {st : St} {X : Nat → List Txt} {V f : Nat → Value} {w0 w : World}
theorem Pre.alloc (h : Pre S i st X V f w0 w) (o : Obj) : Pre S i st X V f w0 (w.alloc o) := by
  have hlt := h.tri.lt
  exact ⟨h.tri.keep fun b _ hb => Below.heap_alloc _ _ _ (by omega), heap_two h.al, h.bel.alloc (by omega) o, heap_two h.blk, fun j hj => (h.own j hj).alloc o, h.apart⟩
theorem Pre.drew (h : Pre S i st X V f w0 w) : Pre S i st X V f w0 w.drew := ⟨h.tri.drew, h.al, h.bel.drew, h.blk, fun j hj => (h.own j hj).drew, h.apart⟩
theorem set_six {w : World} {b : Nat} {f : Nat → Value} {t : TypeId} (h : w.heap[b]? = some (.cells #[f 0, f 1, f 2, f 3, f 4, f 5] t (0, 0))) (j : Nat) (hj : j < 6) (v : Value) :
    (w.setCell ⟨b, j, none⟩ v).heap[b]? = some (.cells #[if 0 = j then v else f 0, if 1 = j then v else f 1, if 2 = j then v else f 2, if 3 = j then v else f 3, if 4 = j then v else f 4, if 5 = j then v else f 5] t (0, 0)) := by
  have hlt := (Array.getElem?_eq_some_iff.1 h).1
  have h' : w.heap[b] = .cells #[f 0, f 1, f 2, f 3, f 4, f 5] t (0, 0) := by simpa [Array.getElem?_eq_getElem hlt] using h
  show (w.heap.modify b _)[b]? = _
  rw [Array.getElem?_eq_getElem (by simpa using hlt), Array.getElem_modify_self, h']
  rcases (show j = 0 ∨ j = 1 ∨ j = 2 ∨ j = 3 ∨ j = 4 ∨ j = 5 by omega) with rfl | rfl | rfl | rfl | rfl | rfl <;> rfl
theorem Pre.store (h : Pre S i st X V f w0 w) (j : Nat) (hj : j < 6) (v : Value) : Pre S i st X V (fun q => if q = j then v else f q) w0 (w.setCell ⟨S + 7, j, none⟩ v) :=
  ⟨h.tri.keep fun b _ hb => Below.heap_setCell _ _ _ _ (by show b ≠ S + 7; omega), (Below.heap_setCell _ _ _ _ (by show S + 6 ≠ S + 7; omega)).trans h.al, h.bel.setCell (by show S ≤ S + 7; omega) v,
    set_six h.blk j hj v, fun q hq => ownsRow_setCell_below (h.own q hq) (a := ⟨S + 7, j, none⟩) (by show S + 7 < S + 8; omega) v, h.apart⟩
theorem Pre.cell (h : Pre S i st X V f w0 w) (j : Nat) (hj : j < 6) : w.cell? ⟨S + 7, j, none⟩ = some (f j) ∧ w.frozen? ⟨S + 7, j, none⟩ = false := by
  refine ⟨?_, frozen_of_heap h.blk j⟩
  rw [cell_of_heap h.blk]
  rcases (show j = 0 ∨ j = 1 ∨ j = 2 ∨ j = 3 ∨ j = 4 ∨ j = 5 by omega) with rfl | rfl | rfl | rfl | rfl | rfl <;> rfl
def updR (X : Nat → List Txt) (j : Nat) (t : Txt) : Nat → List Txt := fun q => if q = j then X j ++ [t] else X q
def updV (V : Nat → Value) (j : Nat) (v : Value) : Nat → Value := fun q => if q = j then v else V q
theorem Pre.app (h : Pre S i st X V f w0 w) (j : Nat) (hj : j < 6) (t : Txt) {g cap : Nat} {w' : World} (ho : w'.ownsRow (S + 8) 9 1 (.slice (some ⟨g, 0, none⟩) ((X j).length + 1) cap) ((X j).length + 1) (((X j).map fun t => Value.string (B t)) ++ [.string (B t)]))
    (hg : w.grownBy w' (V j).ownBlock) (hat : (V j).ownBlock = some g ∨ g = w.heap.size) : Pre S i st (updR X j t) (updV V j (.slice (some ⟨g, 0, none⟩) ((X j).length + 1) cap)) f w0 w' := by
  have hlt7 := (Array.getElem?_eq_some_iff.1 h.blk).1
  have hrow : ∀ b, b < S + 8 → some b ≠ (V j).ownBlock := fun b hb e => by have := ((h.own j hj).lt b e.symm).1; omega
  have keep : ∀ b, b < S + 8 → w'.heap[b]? = w.heap[b]? := fun b hb => hg.block b (by omega) (hrow b hb)
  refine ⟨h.tri.keep fun b _ hb => keep b (by omega), (keep _ (by omega)).trans h.al, h.bel.grown hg (by omega) (fun b hb => by have := ((h.own j hj).lt b hb).1; omega), (keep _ (by omega)).trans h.blk, fun q hq => ?_, ?_⟩
  · unfold updR updV
    by_cases hqj : q = j
    · rw [if_pos hqj, if_pos hqj, List.length_append, List.length_singleton, List.map_append]; exact ho
    · rw [if_neg hqj, if_neg hqj]
      refine (h.own q hq).kept hg ?_
      cases hb : (V q).ownBlock with
      | none => exact .inl rfl
      | some b => exact .inr fun e => h.apart q j hq hj hqj b hb e.symm
  · intro p q hp hq hpq b hb
    unfold updV at hb ⊢
    by_cases hpj : p = j
    · rw [if_pos hpj] at hb
      have hqj : q ≠ j := fun e => hpq (hpj.trans e.symm)
      rw [if_neg hqj]
      obtain rfl : g = b := by simpa [Value.ownBlock] using hb
      rcases hat with e | e
      · exact h.apart j q hj hq (Ne.symm hqj) g e
      · intro e2
        have := ((h.own q hq).lt _ e2).2
        omega
    · rw [if_neg hpj] at hb
      by_cases hqj : q = j
      · rw [if_pos hqj]
        intro e
        obtain rfl : g = b := by simpa [Value.ownBlock] using e
        rcases hat with e | e
        · exact h.apart p j hp hj hpj g hb e
        · have := ((h.own p hp).lt _ hb).2
          omega
      · rw [if_neg hqj]; exact h.apart p q hp hq hpq b hb
end
theorem infoStrS : (Try.prog.info? 9).map (fun i => (i.zero, i.size, i.bytes)) = some (some (.string ⟨#[]⟩), 1, 16) := by kernel_rfl
theorem step_app {S i : Nat} {st : St} {X : Nat → List Txt} {V f : Nat → Value} {w0 w : World} {ops : Array Oper} {o : Oper} {a : Act} {K : Act → World → Prop} {Q : Exit → Act → World → Prop} {E : Prop} (hgd : o.guard = none) (s x : Operand)
    (ho : o.op = .call { callee := .builtin .append, args := #[s, x], argTypes := #[48, 48] }) (j : Nat) (hj : j < 6) (t : Txt) (vj : Value) (n b : Nat) (hn2 : n ≤ 100)
    (hs : a.eval s = vj) (hx : a.eval x = .slice (some ⟨b, 0, none⟩) 1 1) (HP : Pre S i st X V f w0 w) (hvj : V j = vj) (hn : (X j).length = n) (hb : w.cell? ⟨b, 0, none⟩ = some (.string (B t)))
    (h : ∀ g cap w', Pre S i st (updR X j t) (updV V j (.slice (some ⟨g, 0, none⟩) (n + 1) cap)) f w0 w' → (∀ p u, w.cell? ⟨p, 0, none⟩ = some u → some p ≠ vj.ownBlock → w'.cell? ⟨p, 0, none⟩ = some u) →
      K (a.put o.dst (.slice (some ⟨g, 0, none⟩) (n + 1) cap)) w') :
    if Region.wanted o (yielded ops a.tmps) = true then Oper.wp Try.prog o a w K Q else E := by
  subst hvj
  subst hn
  obtain ⟨i0, hi, hz0, hz1, hz2⟩ := info_parts infoStrS
  have hlt := HP.tri.lt
  have h7 := (Array.getElem?_eq_some_iff.1 HP.blk).1
  refine step_append_lies w hgd s x 48 ho (S + 8) 9 i0 (.string ⟨#[]⟩) 1 16 Try.underlying48 hi hz0 hz1 hz2 rfl (by decide) (V j) (X j).length ((X j).map fun t => Value.string (B t)) hs (HP.own j hj) ⟨b, 0, none⟩ 1 1 [.string (B t)] hx rfl ?_ (by simp [Value.oneCell']) (by omega) (by unfold maxLen; omega) (by omega) (by omega) w.heap.size rfl ?_
  · intro q u hu
    cases q with
    | zero =>
      obtain rfl : Value.string (B t) = u := by simpa using hu
      simpa [Addr.add] using hb
    | succ q => simp at hu
  · intro g cap w' hown hg hat _
    refine h g cap w' (HP.app j hj t hown hg hat) fun p u hp hne => ?_
    exact (hg.cell_far ⟨p, 0, none⟩ (lt_of_cell hp) hne).trans hp
theorem cell_new1 (w : World) (v : Value) (t : TypeId) (n : Nat) (h : w.heap.size = n) : (w.alloc (.cells #[v] t)).cell? ⟨n, 0, none⟩ = some v := by
  rw [cell_of_heap (heap_at h)]; rfl
theorem cell_old1 {w : World} {o : Obj} {a : Addr} {u : Value} (h : w.cell? a = some u) : (w.alloc o).cell? a = some u :=
  (World.cell?_of_block (Below.heap_alloc w o _ (lt_of_cell h))).trans h
theorem put_rows (st : St) (k : Nat) (nm tx : Txt) : rowOf (st.put k nm tx) = updR (updR (rowOf st) (2 * k) nm) (2 * k + 1) tx := by
  funext j
  rw [St.put_row]
  unfold updR
  have r0 : rowOf st (2 * k) = st.ns k := by unfold rowOf; rw [if_pos (by omega)]; congr 1; omega
  have r1 : rowOf st (2 * k + 1) = st.ts k := by unfold rowOf; rw [if_neg (by omega)]; congr 1; omega
  by_cases h1 : j = 2 * k + 1
  · rw [if_pos h1, if_neg (by omega), if_pos h1, if_neg (by omega), r1]
  · rw [if_neg h1, if_neg h1]
    by_cases h0 : j = 2 * k
    · rw [if_pos h0, if_pos h0, r0]
    · rw [if_neg h0, if_neg h0]
theorem step_len (st : St) (s : SetT) (j : Nat) : (rowOf (st.step s) j).length ≤ (rowOf st j).length + 1 := by
  unfold St.step
  split
  · rw [put_rows]
    unfold updR
    by_cases h1 : j = 2 * kOf s + 1
    · rw [if_pos h1, if_neg (by omega), h1]; simp
    · rw [if_neg h1]
      by_cases h0 : j = 2 * kOf s
      · rw [if_pos h0, h0]; simp
      · rw [if_neg h0]; omega
  · omega
theorem built_len (l : List SetT) (j : Nat) : (rowOf (builtS l) j).length ≤ l.length := by
  have go : ∀ (l : List SetT) (st : St), (rowOf (l.foldl St.step st) j).length ≤ (rowOf st j).length + l.length := by
    intro l
    induction l with
    | nil => intro st; simp
    | cons s l ih =>
      intro st
      have h1 := ih (st.step s)
      have h2 := step_len st s j
      rw [List.foldl_cons, List.length_cons]; omega
  have := go l St.init
  have e : rowOf St.init j = [] := by unfold rowOf St.init; split <;> rfl
  rw [e] at this
  simpa [builtS] using this
end Go.Proofs.Ytlpjhpdgjeiioaa.Sc
