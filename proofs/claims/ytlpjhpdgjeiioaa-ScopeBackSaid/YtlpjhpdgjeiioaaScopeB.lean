/- Scopes as chains of maps: New, Get, Set. -/
import Derived.Test.YtlpjhpdgjeiioaaScopeA
import Derived.Maps.Own
import Derived.Maps.OwnSet
import Derived.Maps.OwnOps
import Derived.Maps.Views
import Derived.Maps.StringElems
import Derived.Maps.AppendAt
import Derived.Below
import Derived.ProofKit
set_option linter.unusedSimpArgs false
set_option linter.unusedVariables false
namespace Go.Proofs.Ytlpjhpdgjeiioaa.Sc
open Go.RowKit Go.Lib Go.Shelf Go.Maps Go.WideMaps Go.WideElems Go.Proofs.YtlpjhpdgjeiioaaW.PrintWords Go.Proofs.Ytlpjhpdgjeiioaa.U Go.Proofs.Ytlpjhpdgjeiioaa.Idx

abbrev Txt := List UInt8
abbrev MapL := Txt → Option Txt
def upd (m : MapL) (k t : Txt) : MapL := fun x => if x = k then some t else m x
def none0 : MapL := fun _ => none

theorem skeyed : Keyed Try.prog 9 := string_keyed Try.underlying9
theorem szero (w : World) : (zeroValue 9).run Try.prog w = .ok (.string ⟨#[]⟩) w := by kernel_rfl
/-- Block b of w is a map of at most n entries that reads as m. -/
def OwnsM (w : World) (b n : Nat) (m : MapL) : Prop :=
  ∃ D : DataW Unit, w.ownsMap Try.prog 9 (plainElem Try.prog 9) b n D ∧ (∀ k, Maps.has D (.string k) = (m k).isSome) ∧ (∀ k t, m k = some t → ∀ z, D.atKey (.string k) z = .lit (.string t))

theorem OwnsM.lt {w : World} {b n : Nat} {m : MapL} (h : OwnsM w b n m) : b < w.heap.size := by
  obtain ⟨D, h, _⟩ := h
  exact h.lt
theorem OwnsM.mono {w : World} {b n n' : Nat} {m : MapL} (h : OwnsM w b n m) (hn : n ≤ n') : OwnsM w b n' m := by
  obtain ⟨D, h, r⟩ := h
  exact ⟨D, h.mono hn, r⟩
theorem OwnsM.kept {w w' : World} {b n : Nat} {m : MapL} {row : Option Nat} (h : OwnsM w b n m) (hg : w.grownBy w' row) (hne : some b ≠ row) : OwnsM w' b n m := by
  obtain ⟨D, h, r⟩ := h
  exact ⟨D, h.kept hg hne, r⟩
theorem OwnsM.same {w w' : World} {b n : Nat} {m : MapL} (h : OwnsM w b n m) (hb : w'.heap[b]? = w.heap[b]?) : OwnsM w' b n m := by
  obtain ⟨D, ⟨es, clock, h1, h2⟩, r⟩ := h
  exact ⟨D, ⟨es, clock, hb.trans h1, h2⟩, r⟩
theorem OwnsM.made (w : World) : OwnsM (w.alloc (.map #[] 0)) w.heap.size 0 none0 :=
  ⟨.map [], World.ownsMap_made w _ _ _, fun _ => rfl, fun k t h => by cases h⟩
theorem OwnsM.look {w : World} {b n : Nat} {m : MapL} (h : OwnsM w b n m) (k : Txt) (hk : k.length ≤ maxLen) :
    (Instr.lookup 64 (.map (some b)) (.string (B k)) true).run Try.prog w = .ok (.tuple #[.string (B ((m k).getD [])), .bool (m k).isSome]) w := by
  obtain ⟨D, h, h1, h2⟩ := h
  have hkey : keyOf Try.prog 9 (.string (B k)) = some (.string k) := keyOf_string_mk Try.underlying9 (by rw [size_B]; exact hk)
  obtain ⟨v, ps, hrun, hv⟩ := h.look_ok skeyed Try.underlying64 (szero w) (plainElem_string Try.underlying9 (by decide)) hkey
  obtain ⟨s, rfl, hs, _⟩ := plainElem_string_inv Try.underlying9 hv
  have hat := (Prod.mk.inj hs).1
  rw [hrun, h1 k]
  have : s = B ((m k).getD []) := by
    cases hm : m k with
    | none =>
      show s = B []
      have hn : Maps.has D (.string k) = false := by rw [h1 k, hm]; rfl
      rw [Maps.atKey_of_not_has hn] at hat
      have : ([] : List UInt8) = s.data.toList := Lit.string.inj (DataW.lit.inj hat)
      have e := B_of s
      rw [← this] at e
      exact e
    | some t =>
      show s = B t
      rw [h2 k t hm] at hat
      have : t = s.data.toList := Lit.string.inj (DataW.lit.inj hat)
      have e := B_of s
      rw [← this] at e
      exact e
  rw [this]
theorem OwnsM.store {w : World} {b n : Nat} {m : MapL} (h : OwnsM w b n m) (hn : n < maxLen) (k t : Txt) (hk : k.length ≤ maxLen) (ht : t.length ≤ maxLen) :
    ∃ w', (Instr.mapUpdate 64 (.map (some b)) (.string (B k)) (.string (B t))).run Try.prog w = .ok () w' ∧ OwnsM w' b (n + 1) (upd m k t) ∧ w.grownBy w' (some b) := by
  obtain ⟨D, h, h1, h2⟩ := h
  have hkey : keyOf Try.prog 9 (.string (B k)) = some (.string k) := keyOf_string_mk Try.underlying9 (by rw [size_B]; exact hk)
  obtain ⟨w', hrun, hown, hg⟩ := h.update skeyed Try.underlying64 hn hkey (plainElem_string (H := Unit) Try.underlying9 (s := B t) (by rw [size_B]; exact ht))
  refine ⟨w', hrun, ⟨_, hown, ?_, ?_⟩, hg⟩
  · intro x
    by_cases hx : x = k
    · subst hx
      rw [has_put_same h.isMap (show WideAt.IsKeyLit (.string x) from trivial)]; simp [upd]
    · rw [has_put_other (by simpa using hx), h1 x]; simp [upd, hx]
  · intro x t' hx' z
    by_cases hx : x = k
    · subst hx
      rw [atKey_put_same h.isMap (show WideAt.IsKeyLit (.string x) from trivial)]
      have : t = t' := by simpa [upd] using hx'
      rw [← this]
    · rw [atKey_put_other (by simpa using hx)]
      exact h2 x t' (by simpa [upd, hx] using hx') z

theorem _root_.Go.RowKit.Below.next {a b c : World} (h : Below a.heap.size a b) (k : Below b.heap.size b c) : Below a.heap.size a c := h.trans (k.mono h.size)
/-- A scope: its block, its map's block, what the map holds. -/
structure Lev where
  b : Nat
  bm : Nat
  n : Nat
  m : MapL
def Chain (w : World) : List Lev → Value → Prop
  | [], v => v = .pointer none
  | s :: r, v => v = .pointer (some ⟨s.b, 0, none⟩) ∧ ∃ up, w.heap[s.b]? = some (.cells #[up, .map (some s.bm)] 66 (0, 0)) ∧ OwnsM w s.bm s.n s.m ∧ Chain w r up
def getL : List Lev → Txt → Txt
  | [], _ => []
  | s :: r, k => match s.m k with
    | some t => t
    | none => getL r k
theorem Chain.same {w w' : World} {L : List Lev} : ∀ {v : Value}, Chain w L v → (∀ s ∈ L, w'.heap[s.b]? = w.heap[s.b]? ∧ w'.heap[s.bm]? = w.heap[s.bm]?) → Chain w' L v := by
  induction L with
  | nil => intro v h _; exact h
  | cons s r ih =>
    intro v h hs
    obtain ⟨hv, up, hb, hm, hr⟩ := h
    exact ⟨hv, up, (hs s (by simp)).1.trans hb, hm.same (hs s (by simp)).2, ih hr fun x hx => hs x (by simp [hx])⟩
theorem Chain.lt {w : World} {L : List Lev} : ∀ {v : Value}, Chain w L v → ∀ s ∈ L, s.b < w.heap.size ∧ s.bm < w.heap.size := by
  induction L with
  | nil => intro v _ s hs; cases hs
  | cons x r ih =>
    intro v h s hs
    obtain ⟨hv, up, hb, hm, hr⟩ := h
    rcases List.mem_cons.1 hs with rfl | hs
    · exact ⟨(Array.getElem?_eq_some_iff.1 hb).1, hm.lt⟩
    · exact ih hr s hs
theorem Chain.below {w w' : World} {L : List Lev} {v : Value} (h : Chain w L v) (hb : Below w.heap.size w w') : Chain w' L v :=
  h.same fun s hs => ⟨hb.block _ (h.lt s hs).1, hb.block _ (h.lt s hs).2⟩

set_option maxRecDepth 100000 in
set_option maxHeartbeats 4000000 in
theorem Get_any (L : List Lev) (v : Value) (k : Txt) (hk : k.length ≤ maxLen) (w : World) (hC : Chain w L v) :
    Calls Try.prog 13 #[v, .string (B k)] w fun e w' => e = .returned (.string (B (getL L k))) ∧ w = w' := by
  go_enter Try.func13, Try.ntmps13
  go_wp2
  go_step3
  go_wp2
  go_step3
  go_wp2
  go_loopg [0] L.length (fun gk s0 wr => ∃ (u : Value) (L' : List Lev), s0 = u ∧ Hid (Chain w L' u) ∧ L'.length ≤ gk ∧ Hid (getL L' k = getL L k) ∧ w = wr)
  case atStart => exact ⟨v, L, rfl, hC, Nat.le_refl _, rfl, rfl⟩
  case round =>
    obtain ⟨u, L', hu, hC', hl, hG, rfl⟩ := hrel
    cases L' with
    | nil =>
      obtain rfl : u = .pointer none := hC'.out
      subst hu
      go_wp2_with fail
      rw [Exit.noGoto_ret]
      go_ret
      exact ⟨by rw [← hG.out]; rfl, rfl⟩
    | cons s r =>
      simp only [List.length_cons] at hl
      cases gk with
      | zero => omega
      | succ gk =>
      obtain ⟨rfl, up, hb, hm, hr⟩ := hC'.out
      subst hu
      have c0 : w.cell? ⟨s.b, 0, none⟩ = some up := by rw [cell_of_heap hb]; rfl
      have c1 : w.cell? ⟨s.b, 1, none⟩ = some (.map (some s.bm)) := by rw [cell_of_heap hb]; rfl
      have hlook := hm.look k hk
      cases hmk : s.m k with
      | none =>
        rw [hmk] at hlook
        simp only [Option.getD_none, Option.isSome_none] at hlook
        have hG' : Hid (getL r k = getL L k) := by
          have := hG.out
          simp only [getL, hmk] at this
          exact this
        have hR := Lib.hid hr
        clear hr hG hm hmk
        go_wp2_with fail
        go_roundg gk
        case measure => omega
        case rel => exact ⟨up, r, rfl, hR, by omega, hG', rfl⟩
      | some t =>
        rw [hmk] at hlook
        simp only [Option.getD_some, Option.isSome_some] at hlook
        have hG' : Hid (t = getL L k) := by
          have := hG.out
          simp only [getL, hmk] at this
          exact this
        clear hr hG hm hmk
        go_wp2_with fail
        rw [Exit.noGoto_ret]
        go_ret
        exact ⟨by rw [← hG'.out]; rfl, rfl⟩

set_option maxRecDepth 100000 in
set_option maxHeartbeats 2000000 in
theorem New_any (q : Option Addr) (w : World) :
    Calls Try.prog 17 #[.pointer q] w fun e w' => e = .returned (.pointer (some ⟨w.heap.size + 1, 0, none⟩)) ∧
      (w.alloc (.map #[] 0)).alloc (.cells #[.pointer q, .map (some w.heap.size)] 66) = w' := by
  have hmm := @run_makeMap Try.prog
  go_enter Try.func17, Try.ntmps17
  go_wp2_with fail
  go_ret
  exact ⟨rfl, rfl⟩
theorem New_chain (L : List Lev) (v : Value) (w : World) (hC : Chain w L v) :
    Calls Try.prog 17 #[v] w fun e w' => e = .returned (.pointer (some ⟨w.heap.size + 1, 0, none⟩)) ∧
      (Chain w' (⟨w.heap.size + 1, w.heap.size, 0, none0⟩ :: L) (.pointer (some ⟨w.heap.size + 1, 0, none⟩)) ∧ Below w.heap.size w w') ∧ w'.heap.size = w.heap.size + 2 := by
  obtain ⟨q, rfl⟩ : ∃ q, v = .pointer q := by
    cases L with
    | nil => exact ⟨_, hC⟩
    | cons s r => exact ⟨_, hC.1⟩
  refine (New_any q w).mono ?_
  rintro e w' ⟨rfl, rfl⟩
  have hB : Below w.heap.size w ((w.alloc (.map #[] 0)).alloc (.cells #[.pointer q, .map (some w.heap.size)] 66)) := ((Below.refl _ w).alloc (Nat.le_refl _) _).alloc (by simp) _
  refine ⟨rfl, ⟨⟨rfl, .pointer q, ?_, ?_, hC.below hB⟩, hB⟩, by simp⟩
  · have := heap_alloc_new (w.alloc (.map #[] 0)) (.cells #[.pointer q, .map (some w.heap.size)] 66)
    simpa using this
  · refine (OwnsM.made w).same ?_
    exact Below.heap_alloc _ _ _ (by simp)

/-- The world behind a store into a scope. -/
def Stored (w w' : World) (s : Lev) (k t : Txt) : Prop := ∃ w1, Below w.heap.size w w1 ∧ w1.grownBy w' (some s.bm) ∧ OwnsM w' s.bm (s.n + 1) (upd s.m k t)
def Lev.set (s : Lev) (k t : Txt) : Lev := ⟨s.b, s.bm, s.n + 1, upd s.m k t⟩
theorem Stored.other {w w' : World} {s : Lev} {k t : Txt} {L : List Lev} {v : Value} (h : Stored w w' s k t) (hC : Chain w L v) (hne : ∀ x ∈ L, x.bm ≠ s.bm ∧ x.b ≠ s.bm) : Chain w' L v := by
  obtain ⟨w1, h1, h2, h3⟩ := h
  have hC1 := hC.below h1
  refine hC1.same fun x hx => ⟨?_, ?_⟩
  · exact h2.block _ (hC1.lt x hx).1 (fun e => (hne x hx).2 (by injection e))
  · exact h2.block _ (hC1.lt x hx).2 (fun e => (hne x hx).1 (by injection e))
theorem Stored.head {w w' : World} {s : Lev} {k t : Txt} {L : List Lev} {v : Value} (h : Stored w w' s k t) (hC : Chain w (s :: L) v) (hne : ∀ x ∈ L, x.bm ≠ s.bm ∧ x.b ≠ s.bm) (hs : s.b ≠ s.bm) : Chain w' (s.set k t :: L) v := by
  obtain ⟨hv, up, hb, hm, hr⟩ := hC
  have hr' := h.other hr hne
  obtain ⟨w1, h1, h2, h3⟩ := h
  refine ⟨hv, up, ?_, h3, hr'⟩
  have hlt := (Array.getElem?_eq_some_iff.1 hb).1
  have hb1 := (h1.block _ hlt).trans hb
  exact (h2.block _ (Array.getElem?_eq_some_iff.1 hb1).1 (fun e => hs (by injection e))).trans hb1

set_option maxRecDepth 100000 in
set_option maxHeartbeats 2000000 in
theorem Set_nil (k t : Txt) (w : World) :
    Calls Try.prog 15 #[.pointer none, .string (B k), .string (B t)] w fun e w' => e = .returned (.int .i64 15) ∧ w = w' := by
  go_enter Try.func15, Try.ntmps15
  go_wp2_with fail
  go_ret
  exact ⟨rfl, rfl⟩
set_option maxRecDepth 100000 in
set_option maxHeartbeats 2000000 in
theorem Set_bad (a : Addr) (k t : Txt) (hk : nameL k = false) (w : World) :
    Calls Try.prog 15 #[.pointer (some a), .string (B k), .string (B t)] w fun e w' => e = .returned (.int .i64 5) ∧ Below w.heap.size w w' := by
  have hN := Lib.hid (fun W => Name_any k W)
  rw [hk] at hN
  go_enter Try.func15, Try.ntmps15
  go_wp2_with fail
  refine (hN.out _).mono ?_
  rintro e w' ⟨rfl, hb⟩
  go_wp2_with fail
  go_ret
  exact ⟨rfl, hb⟩
set_option maxRecDepth 100000 in
set_option maxHeartbeats 2000000 in
theorem Set_ok (s : Lev) (r : List Lev) (v : Value) (k t : Txt) (hk : nameL k = true) (hkl : k.length ≤ maxLen) (htl : t.length ≤ maxLen) (hn : s.n < 1000000) (w : World) (hC : Chain w (s :: r) v) :
    Calls Try.prog 15 #[v, .string (B k), .string (B t)] w fun e w' => e = .returned (.int .i64 0) ∧ Stored w w' s k t := by
  have hN := Lib.hid (fun W => Name_any k W)
  rw [hk] at hN
  obtain ⟨rfl, up, hb, hm, hr⟩ := hC
  have hlt := (Array.getElem?_eq_some_iff.1 hb).1
  have hHB := Lib.hid hb
  have hHM := Lib.hid hm
  clear hr hb hm
  go_enter Try.func15, Try.ntmps15
  go_wp2_with fail
  refine (hN.out _).mono ?_
  rintro e w1 ⟨rfl, hB⟩
  have hb1 := (hB.block _ hlt).trans hHB.out
  have c0 : w1.cell? ⟨s.b, 0, none⟩ = some up := by rw [cell_of_heap hb1]; rfl
  have c1 : w1.cell? ⟨s.b, 1, none⟩ = some (.map (some s.bm)) := by rw [cell_of_heap hb1]; rfl
  have hm1 := hHM.out.same (hB.block _ hHM.out.lt)
  obtain ⟨w2, hrun, hown, hg⟩ := hm1.store (by unfold maxLen; omega) k t hkl htl
  clear hb1 hm1
  go_wp2_with fail
  go_ret
  exact ⟨rfl, w1, hB, hg, hown⟩
end Go.Proofs.Ytlpjhpdgjeiioaa.Sc
