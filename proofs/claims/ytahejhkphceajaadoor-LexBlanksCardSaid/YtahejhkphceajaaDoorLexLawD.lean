/- Plain lemmas that the laws of layer 9 share: rows alike, signs, the example. -/
import Derived.Test.YtahejhkphceajaaDoorLex
import Derived.Test.YtahejhkphceajaaDoorLexWords
import Derived.Test.YtahejhkphceajaaDoorPBellowslaw09Same0
import Derived.Test.YtahejhkphceajaaDoorPBellowslaw09Awake0
set_option linter.unusedSimpArgs false
set_option linter.unusedVariables false
namespace Go.Proofs.YtahejhkphceajaaDoor.P
open Go.RowKit Go.Proofs.YtahejhkphceajaaDoorW.PrintWords Go.Proofs.YtahejhkphceajaaDoorW.PrintLast Go.Proofs.YtahejhkphceajaaDoorW.PrintMore Go.Proofs.YtahejhkphceajaaDoor.U Go.Proofs.YtahejhkphceajaaDoor.Lex

theorem same_loop (xs : List ByteArray) (hn : xs.length < 60000) (d : Nat) : ∀ i : Nat, i + d = xs.length → Ev (fun k => bellowslaw09_same.l0 k xs xs (i : Int)) true := by
  induction d with
  | zero =>
    intro i hi
    refine Ev.unroll ?_
    have h1 : ¬ (i : Int) < (xs.length : Int) := by omega
    simp only [bellowslaw09_same.l0, if_neg h1]
    exact Ev.now _
  | succ d ih =>
    intro i hi
    refine Ev.unroll ?_
    have h1 : (i : Int) < (xs.length : Int) := by omega
    have h2 : (0 : Int) ≤ (i : Int) := by omega
    have hr := ih (i + 1) (by omega)
    have hw := wrap_succ i (by omega)
    simp only [bellowslaw09_same.l0, if_pos h1, if_pos h2, if_true, hw]
    exact hr
theorem same_self (xs : List ByteArray) (hn : xs.length < 60000) : Ev (fun k => bellowslaw09_same.f k xs xs) true := by
  simp only [bellowslaw09_same.f, if_true]
  exact same_loop xs hn xs.length 0 (by omega)
def isSign (l : List UInt8) : Bool := l == [58] || l == [124] || l == [124, 124]
theorem Sign_B (l : List UInt8) : lex_Sign.f (B l) = some (isSign l) := by
  unfold lex_Sign.f isSign
  rw [toList_B]
  by_cases h1 : l = [58]
  · simp [h1]
  · by_cases h2 : l = [124]
    · simp [h2]
    · simp [h1, h2]
theorem words_f (l : List UInt8) (h : l.length ≤ 1048576) : lex_Words.f (B l) = some ((words l).map B) := by
  unfold lex_Words.f
  rw [size_B, if_pos h]
theorem awake_true : Ev (fun k => bellowslaw09_awake.f k) true := by
  unfold bellowslaw09_awake.f
  have e1 : (⟨#[97, 58, 98, 32, 124, 124, 32, 99, 36, 32, 100]⟩ : ByteArray) = B [97, 58, 98, 32, 124, 124, 32, 99, 36, 32, 100] := rfl
  have e2 : (⟨#[124, 124]⟩ : ByteArray) = B [124, 124] := rfl
  have e3 : (⟨#[124, 124, 124]⟩ : ByteArray) = B [124, 124, 124] := rfl
  have hw : (words [97, 58, 98, 32, 124, 124, 32, 99, 36, 32, 100]).map B = [(⟨#[97]⟩ : ByteArray), (⟨#[58]⟩ : ByteArray), (⟨#[98]⟩ : ByteArray), (⟨#[124, 124]⟩ : ByteArray), (⟨#[99, 36, 32, 100]⟩ : ByteArray)] := by
    simp [words, wordsGo, flushL]
  rw [e1, words_f _ (by simp), hw]
  simp only [Option.bind_some]
  refine Ev.bind (same_self _ (by simp)) ?_
  simp only [if_true, e3, Sign_B, isSign, Option.bind_some]
  exact Ev.eqn (Ev.now _) (by decide)
end Go.Proofs.YtahejhkphceajaaDoor.P
