/- A slice of strings among the arguments of a law, opened as one list of strings in the print's kind. -/
import Derived.SliceStrings
import Derived.Test.YtaocdnebglnkeaaDoorWWords
import Derived.Test.YtaocdnebglnkeaaDoorProg
import Derived.ProofKit
import Derived.KernelRfl
set_option linter.unusedVariables false
namespace Go.Proofs.YtaocdnebglnkeaaDoor
open Go.RowKit Go.ChangeShapes Go.WideShapes Go.Proofs.YtaocdnebglnkeaaDoorW.PrintWords
theorem strs_open {H : Type} {enc : TypeId × Value → H} {W : World} {a : Option Addr} {len cap : Nat} {d : DataW H} {ps : List MemPlace} (h : DataW.Trod enc Tryd.prog W 0 (fun _ => true) true 22 (.slice a len cap) d ps) :
    ∃ l : List ByteArray, l.length = len ∧ len ≤ cap ∧ Kd.C Kd.string W a l.length l := by
  obtain ⟨fuel, hf⟩ := h
  rcases open_strings Tryd.underlying22 Tryd.underlying9 (by kernel_rfl) hf with ⟨hcs, _⟩ | ⟨x, l, c, ss, hcs, _, hl, hm, hz, _, hcell, _⟩
  · simp [Value.cells] at hcs
    obtain ⟨rfl, rfl, rfl⟩ := hcs
    exact ⟨[], rfl, Nat.le_refl _, rfl, by decide, fun h => absurd h (by decide)⟩
  · simp [Value.cells] at hcs
    obtain ⟨rfl, rfl, rfl⟩ := hcs
    have hz' : ss.length = cap := by simpa using hz
    have hlen : (ss.take len).length = len := by rw [List.length_take]; omega
    refine ⟨ss.take len, hlen, hl, rfl, by rw [hlen]; unfold maxLen at hm; omega, fun _ => ⟨x, rfl, fun j p hj => ⟨[.string p], rfl, rfl, fun i u hu => ?_⟩⟩⟩
    have hjl : j < len := by rw [← hlen]; exact (List.getElem?_eq_some_iff.1 hj).1
    cases i with
    | zero =>
      obtain rfl : Value.string p = u := by simpa using hu
      have e1 : ss[j]? = some p := by rw [List.getElem?_take] at hj; simpa [hjl] using hj
      have := hcell j (by omega)
      rw [show ss.getD j ByteArray.empty = p by simp [List.getD, e1]] at this
      show W.cell? (x.add (j * 1 + 0)) = _
      rw [Nat.mul_one, Nat.add_zero]; exact this
    | succ i => simp at hu
end Go.Proofs.YtaocdnebglnkeaaDoor
