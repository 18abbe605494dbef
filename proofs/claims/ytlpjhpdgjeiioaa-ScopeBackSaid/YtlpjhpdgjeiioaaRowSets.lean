/- A slice of sets (a number, two texts) among the arguments of a law, opened as one list. -/
import Derived.Test.YtlpjhpdgjeiioaaU
import Derived.ChangeSlices
import Derived.ChangeArms
import Derived.ProofKit
import Derived.KernelRfl
import Derived.Test.YtlpjhpdgjeiioaaWWords
import Derived.Test.YtlpjhpdgjeiioaaProg
set_option linter.unusedVariables false
namespace Go.Proofs.Ytlpjhpdgjeiioaa.Sc
open Go.RowKit Go.ChangeShapes Go.WideShapes Go.Proofs.YtlpjhpdgjeiioaaW.PrintWords Go.Proofs.Ytlpjhpdgjeiioaa.U
structure SetT where
  lev : Int
  name : List UInt8
  text : List UInt8
def SetsAt (W : World) (a : Option Addr) (l : List SetT) : Prop :=
  ∀ j (h : j < l.length), ∃ x, a = some x ∧ x.block < W.heap.size ∧ W.cell? (x.add (j * 3)) = some (.int .u8 l[j].lev) ∧ W.cell? ⟨(x.add (j * 3)).block, (x.add (j * 3)).off + 1, none⟩ = some (.string (B l[j].name)) ∧
    W.cell? ⟨(x.add (j * 3)).block, (x.add (j * 3)).off + 2, none⟩ = some (.string (B l[j].text)) ∧ 0 ≤ l[j].lev ∧ l[j].lev ≤ 255
theorem lt_of_cell {W : World} {a : Addr} {v : Value} (h : W.cell? a = some v) : a.block < W.heap.size := by
  rcases Nat.lt_or_ge a.block W.heap.size with h' | h'
  · exact h'
  · have : W.heap[a.block]? = none := Array.getElem?_eq_none h'
    simp [World.cell?, this] at h
theorem SetsAt.below {W W' : World} {a : Option Addr} {l : List SetT} (h : SetsAt W a l) (hb : Below W.heap.size W W') : SetsAt W' a l := by
  intro j hj
  obtain ⟨x, h1, h2, h3, h4, h5, h6⟩ := h j hj
  refine ⟨x, h1, Nat.lt_of_lt_of_le h2 hb.size, ?_, ?_, ?_, h6⟩
  · exact (hb.cell (by rw [block_add]; exact h2)).trans h3
  · exact (hb.cell (by show (x.add (j * 3)).block < _; rw [block_add]; exact h2)).trans h4
  · exact (hb.cell (by show (x.add (j * 3)).block < _; rw [block_add]; exact h2)).trans h5
theorem cells39 : Try.prog.cellsOf 39 = 3 := by kernel_rfl
theorem cells5 : Try.prog.cellsOf 5 = 1 := by kernel_rfl
theorem cells9 : Try.prog.cellsOf 9 = 1 := by kernel_rfl
theorem sets_open {H : Type} {enc : TypeId × Value → H} {W : World} {a : Option Addr} {len cap : Nat} {d : DataW H} {ps : List MemPlace} (h : DataW.Trod enc Try.prog W 0 (fun _ => true) true 22 (.slice a len cap) d ps) :
    ∃ l : List SetT, l.length = len ∧ len ≤ cap ∧ SetsAt W a l := by
  obtain ⟨fuel, hf⟩ := h
  rcases DataW.trod_slice Try.underlying22 hf with ⟨hcs, _⟩ | ⟨x, len', cap', elems, rest, n, _, hcs, _, hb, hl, hm, hlen, hel, _, _⟩
  · simp [Value.cells] at hcs
    obtain ⟨rfl, rfl, rfl⟩ := hcs
    exact ⟨[], rfl, Nat.le_refl _, fun j hj => absurd hj (by simp)⟩
  · simp [Value.cells] at hcs
    obtain ⟨rfl, rfl, rfl⟩ := hcs
    have each : ∀ i, i < len → ∃ s : SetT, W.cell? (x.add (i * 3)) = some (.int .u8 s.lev) ∧ W.cell? ⟨(x.add (i * 3)).block, (x.add (i * 3)).off + 1, none⟩ = some (.string (B s.name)) ∧
        W.cell? ⟨(x.add (i * 3)).block, (x.add (i * 3)).off + 2, none⟩ = some (.string (B s.text)) ∧ 0 ≤ s.lev ∧ s.lev ≤ 255 := by
      intro i hi
      have hE := hel i hi
      rw [cells39] at hE
      have hy : elems[i]? = some (elems[i]'(by omega)) := List.getElem?_eq_getElem (by omega)
      rw [hy, Option.bind_eq_some_iff] at hE
      obtain ⟨cs, hc, hT⟩ := hE
      obtain ⟨_, hcl, hcj⟩ := World.cells?_some hc
      obtain ⟨xs, m, _, _, hcl2, hxs, hF⟩ := DataW.trod_struct Try.underlying39 hT
      have f0 := hF 0 _ rfl
      have f1 := hF 1 _ rfl
      have f2 := hF 2 _ rfl
      change DataW.trod enc _ W 0 _ true m 5 ((cs.drop 0).take (Try.prog.cellsOf 5)) = xs[0]? at f0
      change DataW.trod enc _ W 0 _ true m 9 ((cs.drop 1).take (Try.prog.cellsOf 9)) = xs[1]? at f1
      change DataW.trod enc _ W 0 _ true m 9 ((cs.drop 2).take (Try.prog.cellsOf 9)) = xs[2]? at f2
      rw [cells5] at f0
      rw [cells9] at f1 f2
      have hxl : xs.length = 3 := hxs
      rw [List.getElem?_eq_getElem (by omega)] at f0 f1 f2
      obtain ⟨lv, e0, _, wf⟩ := DataW.trod_int Try.underlying5 f0
      obtain ⟨nm, e1, _, _⟩ := DataW.trod_string Try.underlying9 f1
      obtain ⟨tx, e2, _, _⟩ := DataW.trod_string Try.underlying9 f2
      have hcs3 : cs = [.int .u8 lv, .string nm, .string tx] := by
        obtain ⟨p, q, r, rfl⟩ : ∃ p q r, cs = [p, q, r] := by
          rcases cs with _ | ⟨p, _ | ⟨q, _ | ⟨r, _ | ⟨s, t⟩⟩⟩⟩
          · cases hcl
          · cases hcl
          · cases hcl
          · exact ⟨p, q, r, rfl⟩
          · simp at hcl
        have g0 : p = .int .u8 lv := by injection e0
        have g1 : q = .string nm := by injection e1
        have g2 : r = .string tx := by injection e2
        rw [g0, g1, g2]
      subst hcs3
      have c0 := hcj 0 (by omega)
      have c1 := hcj 1 (by omega)
      have c2 := hcj 2 (by omega)
      rw [Addr.add_add] at c0 c1 c2
      rw [add_field x (i * 3) 1 (by omega)] at c1
      rw [add_field x (i * 3) 2 (by omega)] at c2
      obtain ⟨nl, rfl⟩ := B_surj nm
      obtain ⟨tl, rfl⟩ := B_surj tx
      have hw : 0 ≤ lv ∧ lv ≤ 255 := by have := wf; simp [Lit.wf] at this; exact ⟨this.1, this.2⟩
      exact ⟨⟨lv, nl, tl⟩, by simpa using c0, by simpa using c1, by simpa using c2, hw.1, hw.2⟩
    have all : ∀ n, n ≤ len → ∃ l : List SetT, l.length = n ∧ SetsAt W (some x) l := by
      intro n
      induction n with
      | zero => intro _; exact ⟨[], rfl, fun j hj => absurd hj (by simp)⟩
      | succ n ih =>
        intro hn
        obtain ⟨l, hl, hA⟩ := ih (by omega)
        obtain ⟨s, h1, h2, h3, h4⟩ := each n (by omega)
        have hlt : x.block < W.heap.size := by have := lt_of_cell h1; rwa [block_add] at this
        refine ⟨l ++ [s], by simp [hl], fun j hj => ?_⟩
        by_cases hjn : j < l.length
        · rw [List.getElem_append_left hjn]; exact hA j hjn
        · obtain rfl : j = l.length := by simp at hj; omega
          rw [List.getElem_append_right (Nat.le_refl _)]
          simp only [Nat.sub_self, List.getElem_cons_zero]
          rw [hl]
          exact ⟨x, rfl, hlt, h1, h2, h3, h4⟩
    obtain ⟨l, h1, h2⟩ := all len (Nat.le_refl _)
    exact ⟨l, h1, hl, h2⟩
end Go.Proofs.Ytlpjhpdgjeiioaa.Sc
