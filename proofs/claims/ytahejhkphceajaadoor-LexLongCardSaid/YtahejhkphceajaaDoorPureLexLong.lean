/- LexLong: a text of blanks is too long just if it has more than 2^14 bytes; it has no lines either way; for every number. -/
import Derived.Test.YtahejhkphceajaaDoorLexLawD
import Derived.Test.YtahejhkphceajaaDoorLinesF
import Derived.Test.YtahejhkphceajaaDoorPBellowslaw09LexLong0
set_option linter.unusedSimpArgs false
set_option linter.unusedVariables false
namespace Go.Proofs.YtahejhkphceajaaDoor.Pure
open Go.RowKit Go.Proofs.YtahejhkphceajaaDoor.P Go.Proofs.YtahejhkphceajaaDoorW.PrintWords Go.Proofs.YtahejhkphceajaaDoorW.PrintLast Go.Proofs.YtahejhkphceajaaDoor.U Go.Proofs.YtahejhkphceajaaDoor.Lex Go.Proofs.YtahejhkphceajaaDoor.Ln

namespace LexLong
theorem drop_blanks (m : Nat) : (List.replicate m (32 : UInt8)).dropWhile (· == 32) = [] := by
  induction m with
  | zero => rfl
  | succ m ih => rw [List.replicate_succ, List.dropWhile_cons, if_pos (by decide)]; exact ih
theorem blanks (m : Nat) : linesL (List.replicate m 32) = if 16384 < m then ([], 0, 3) else ([], 0, 0) := by
  rw [linesL, List.length_replicate]
  split
  · rfl
  · have h10 : (10 : UInt8) ∉ List.replicate m (32 : UInt8) := by
      intro h; exact absurd (List.eq_of_mem_replicate h) (by decide)
    have hok : okL (List.replicate m 32) = true := by
      rw [okL, List.all_eq_true]
      intro b hb
      rw [List.eq_of_mem_replicate hb]; decide
    have hem : emptyL (List.replicate m 32) = true := by
      rw [emptyL, show trimL 32 (List.replicate m 32) = [] from drop_blanks m]
    rw [spl_none 10 _ h10]
    simp [linesGo, hok, hem, resL]
theorem set_at (m i : Nat) (h : i < m) : (List.replicate i (32 : Int) ++ List.replicate (m - i) 0).set i 32 = List.replicate (i + 1) 32 ++ List.replicate (m - (i + 1)) 0 := by
  obtain ⟨d, rfl⟩ : ∃ d, m = i + (d + 1) := ⟨m - i - 1, by omega⟩
  rw [show i + (d + 1) - i = d + 1 by omega, show i + (d + 1) - (i + 1) = d by omega, List.replicate_succ]
  rw [List.set_append_right _ _ (by simp)]
  simp [List.replicate_succ']
theorem str_blanks (m : Nat) : strOfNums (List.replicate m (32 : Int)) = B (List.replicate m 32) := by
  rw [strOfNums, List.map_replicate]; rfl
theorem loop (m : Nat) (hm : m ≤ 20000) (d : Nat) : ∀ i : Nat, i + d = m →
    Ev (fun k => bellowslaw09_LexLong.l0 k (List.replicate i 32 ++ List.replicate (m - i) 0) (i : Int)) true := by
  induction d with
  | zero =>
    intro i hi
    obtain rfl : i = m := by omega
    refine Ev.unroll ?_
    have h1 : ¬ (i : Int) < ((List.replicate i (32 : Int) ++ List.replicate (i - i) 0).length : Int) := by simp
    simp only [bellowslaw09_LexLong.l0, if_neg h1]
    simp only [Nat.sub_self, List.replicate_zero, List.append_nil, str_blanks, lex_Lines.f, Option.bind_some]
    rw [blanks]
    simp only [List.length_replicate]
    by_cases hl : 16384 < i
    · have h2 : ((i : Int) > 16384) := by omega
      have h3 : ¬ ((i : Int) ≤ 16384) := by omega
      simp [hl, h2, h3]
      exact awake_true
    · have h2 : ¬ ((i : Int) > 16384) := by omega
      have h3 : ((i : Int) ≤ 16384) := by omega
      simp [hl, h2, h3]
      exact awake_true
  | succ d ih =>
    intro i hi
    refine Ev.unroll ?_
    have h1 : (i : Int) < ((List.replicate i (32 : Int) ++ List.replicate (m - i) 0).length : Int) := by simp; omega
    have h2 : (0 : Int) ≤ (i : Int) := by omega
    have hr := ih (i + 1) (by omega)
    have hw := wrap_succ i (by omega)
    simp only [bellowslaw09_LexLong.l0, if_pos h1, if_pos h2, hw, Int.toNat_natCast]
    rw [set_at m i (by omega)]
    exact hr
end LexLong
open LexLong in
theorem LexLong : bellowslaw09_LexLong.Pure := by
  intro a0 hw
  refine Ev.rounds ?_
  have ha : 0 ≤ a0 ∧ a0 ≤ 255 := by have := hw; simp [Lit.wf] at this; exact ⟨this.1, this.2⟩
  have hw0 : wrap64 a0 = a0 := wrap_id _ (by omega) (by omega)
  have ht : 0 ≤ Int.tmod a0 200 ∧ Int.tmod a0 200 < 200 := ⟨Int.tmod_nonneg _ ha.1, Int.tmod_lt_of_pos _ (by decide)⟩
  obtain ⟨m, hm⟩ : ∃ m : Nat, wrap64 (16284 + Int.tmod (wrap64 a0) 200) = (m : Int) ∧ m ≤ 20000 := by
    refine ⟨(16284 + Int.tmod a0 200).toNat, ?_, by omega⟩
    rw [hw0, wrap_id _ (by omega) (by omega)]; omega
  have h0 : (0 : Int) ≤ (m : Int) := by omega
  have h1 : (m : Int).toNat ≤ 281474976710656 := by have := hm.2; omega
  simp only [bellowslaw09_LexLong.f, hm.1, if_pos h0, if_pos h1]
  have := loop m hm.2 m 0 (by omega)
  simpa using this
end Go.Proofs.YtahejhkphceajaaDoor.Pure
