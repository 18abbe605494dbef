/- What lex.Lines computes. -/
import Derived.Test.YtahejhkphceajaaDoorLinesB
set_option linter.unusedSimpArgs false
set_option linter.unusedVariables false
namespace Go.Proofs.YtahejhkphceajaaDoor.Ln
open Go.RowKit Go.Lib Go.Shelf Go.Proofs.YtahejhkphceajaaDoorW.PrintWords Go.Proofs.YtahejhkphceajaaDoor.U Go.Proofs.YtahejhkphceajaaDoor.Idx

structure LineT where
  inner : Bool
  text : Txt
  num : Nat
deriving DecidableEq
/-- The line that is open behind a piece s, the i-th. -/
def opened (i : Nat) (s : Txt) : Option LineT → LineT
  | some o => { o with text := o.text ++ trimL 32 s }
  | none => ⟨s.head? == some 32, s, i + 1⟩
/-- The lines, or the number of a wrong one. -/
def linesGo (total : Nat) : List Txt → Nat → List LineT → Option LineT → Except Nat (List LineT)
  | [], _, out, _ => .ok out
  | s :: rest, i, out, op =>
    if okL s = false then .error (i + 1) else
    if op = none ∧ emptyL s = true then linesGo total rest (i + 1) out none else
    if oddL s = true then (if i + 1 = total then .error (i + 1) else linesGo total rest (i + 1) out (some { opened i s op with text := (opened i s op).text.dropLast }))
    else linesGo total rest (i + 1) (out ++ [{ opened i s op with text := trimmedL (opened i s op).text }]) none
def resL : Except Nat (List LineT) → List LineT × Nat × Int
  | .ok out => (out, 0, 0)
  | .error n => ([], n, 10)
/-- The lines, a number, an error's number. -/
def linesL (text : Txt) : List LineT × Nat × Int :=
  if 16384 < text.length then ([], 0, 3) else resL (linesGo (spl 10 text).length (spl 10 text) 0 [] none)
/-- A text that ends with an odd number of dollars ends with one. -/
theorem odd_last (l : Txt) (h : oddL l = true) : ∃ p, l = p ++ [36] := by
  rcases List.eq_nil_or_concat l with rfl | ⟨p, b, rfl⟩
  · exact absurd h (by decide)
  · by_cases hb : b = 36
    · subst hb; exact ⟨p, by simp⟩
    · have : trimR 36 (p ++ [b]) = p ++ [b] := by
        have hb' : (b == 36) = false := by rw [beq_eq_false_iff_ne]; exact hb
        simp [trimR, Lib.trimRightB, List.dropWhile_cons, hb']
      rw [List.concat_eq_append, oddL, this] at h
      simp at h
theorem trimL_snoc (p : Txt) : ∃ q, trimL 32 (p ++ [36]) = q ++ [36] := by
  induction p with
  | nil => exact ⟨[], by decide⟩
  | cons b p ih =>
    by_cases hb : b = 32
    · subst hb
      obtain ⟨q, hq⟩ := ih
      refine ⟨q, ?_⟩
      rw [← hq]
      simp [trimL, Lib.trimLeftB, List.dropWhile_cons]
    · have hb' : (b == 32) = false := by rw [beq_eq_false_iff_ne]; exact hb
      exact ⟨b :: p, by simp [trimL, Lib.trimLeftB, List.dropWhile_cons, hb']⟩
theorem opened_ne (i : Nat) (s : Txt) (op : Option LineT) (h : oddL s = true) : (opened i s op).text ≠ [] := by
  obtain ⟨p, rfl⟩ := odd_last s h
  cases op with
  | none => simp [opened]
  | some o =>
    obtain ⟨q, hq⟩ := trimL_snoc p
    simp [opened, hq]
example : linesL [97, 36, 10, 32, 98, 10, 35, 10, 32, 99, 32] = ([⟨false, [97, 98], 1⟩, ⟨true, [99], 4⟩], 0, 0) := by decide +kernel
end Go.Proofs.YtahejhkphceajaaDoor.Ln
