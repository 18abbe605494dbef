/- LexWords: the words that lex.Words tells of a text are the reference's, and a word is a sign just if it is one of the three; for every text (of more than 3000 bytes the law says nothing). -/
import Derived.Test.YtlkoodikflflpaaLexLaw
import Derived.Test.YtlkoodikflflpaaPBellowslaw09LexWords0
set_option linter.unusedSimpArgs false
set_option linter.unusedVariables false
namespace Go.Proofs.Ytlkoodikflflpaa.Pure
open Go.RowKit Go.Proofs.Ytlkoodikflflpaa.P Go.Proofs.YtlkoodikflflpaaW.PrintWords Go.Proofs.YtlkoodikflflpaaW.PrintLast Go.Proofs.Ytlkoodikflflpaa.U Go.Proofs.Ytlkoodikflflpaa.Lex

theorem loop (s : List UInt8) (ws : List (List UInt8)) (hn : (ws.map B).length < 60000) (d : Nat) : ∀ i : Nat, i + d = (ws.map B).length →
    Ev (fun k => bellowslaw09_LexWords.l0 k (B s) (ws.map B) (ws.map B) (i : Int)) true := by
  induction d with
  | zero =>
    intro i hi
    refine Ev.unroll ?_
    have h1 : ¬ (i : Int) < ((ws.map B).length : Int) := by omega
    simp only [bellowslaw09_LexWords.l0, if_neg h1]
    refine Ev.bind (same_self _ hn) ?_
    simp only [if_true, Sign_B, Option.bind_some, toList_B]
    by_cases s1 : s = [58]
    · subst s1
      simp only [isSign]
      exact Ev.bind awake_true (Ev.now _)
    · by_cases s2 : s = [124]
      · subst s2
        simp only [isSign]
        exact Ev.bind awake_true (Ev.now _)
      · have h3 : (isSign s == (s == [124, 124])) = true := by simp [isSign, s1, s2]
        simp only [if_neg s1, if_neg s2, h3, if_true]
        exact Ev.bind awake_true (Ev.now _)
  | succ d ih =>
    intro i hi
    refine Ev.unroll ?_
    have h1 : (i : Int) < ((ws.map B).length : Int) := by omega
    have h2 : (0 : Int) ≤ (i : Int) := by omega
    have hlt : i < ws.length := by simpa using (show i < (ws.map B).length by omega)
    have hr := ih (i + 1) (by omega)
    have hw := wrap_succ i (by omega)
    have hrd : rdOf ByteArray.empty (ws.map B) (i : Int) = B ws[i] := by rw [rdOf_B _ _ (by simpa using hlt)]; simp
    simp only [bellowslaw09_LexWords.l0, if_pos h1, if_pos h2, hrd, Sign_B, Option.bind_some, toList_B, hw]
    generalize ws[i] = x
    by_cases s1 : x = [58]
    · subst s1; simpa [isSign] using hr
    · by_cases s2 : x = [124]
      · subst s2; simpa [isSign] using hr
      · have h3 : (isSign x != (x == [124, 124])) = false := by simp [isSign, s1, s2]
        simp only [if_neg s1, if_neg s2, h3, Bool.false_eq_true, if_false]
        exact hr

theorem LexWords : bellowslaw09_LexWords.Pure := by
  intro a0 _
  obtain ⟨s, rfl⟩ := B_surj a0
  refine Ev.rounds ?_
  by_cases h : ((B s).size : Int) > 3000
  · simp only [bellowslaw09_LexWords.f, if_pos h]; exact Ev.now _
  · have hs : s.length ≤ 3000 := by rw [size_B] at h; omega
    have hl := words_len s
    simp only [bellowslaw09_LexWords.f, if_neg h, words_f s (by omega), Option.bind_some]
    refine Ev.bind (ref_words s (by omega)) ?_
    exact loop s (words s) (by rw [List.length_map]; omega) _ 0 (Nat.zero_add _)
end Go.Proofs.Ytlkoodikflflpaa.Pure
