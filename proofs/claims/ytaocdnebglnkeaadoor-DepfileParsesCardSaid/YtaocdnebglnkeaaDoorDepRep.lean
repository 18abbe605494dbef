/- strings.ReplaceAll of a backslash and an end of line by a blank, as one pass. -/
import Derived.Test.YtaocdnebglnkeaaDoorClean
import Derived.Lib.Replace
set_option linter.unusedSimpArgs false
set_option linter.unusedVariables false
namespace Go.Proofs.YtaocdnebglnkeaaDoor.Dp
open Go.RowKit Go.Lib Go.Proofs.YtaocdnebglnkeaaDoor.U Go.Proofs.YtaocdnebglnkeaaDoor.P
abbrev Txt := List UInt8
def rep2 : Txt → Txt
  | [] => []
  | [b] => [b]
  | b :: d :: r => if b = 92 ∧ d = 10 then 32 :: rep2 r else b :: rep2 (d :: r)
def occ2 : Txt → Nat
  | [] => 0
  | [_] => 0
  | b :: d :: r => if b = 92 ∧ d = 10 then 1 + occ2 r else occ2 (d :: r)
theorem rep2_len (s : Txt) : (rep2 s).length ≤ s.length := by
  fun_induction rep2 s <;> simp_all <;> omega
theorem occ2_len (s : Txt) : 2 * occ2 s ≤ s.length := by
  fun_induction occ2 s <;> simp_all <;> omega
theorem idx_hit (r : Txt) : index (92 :: 10 :: r) [92, 10] = 0 := by simp [index]
theorem idx_one (b : UInt8) : index [b] [92, 10] = -1 := by simp [index, List.isPrefixOf]
theorem idx_miss (b d : UInt8) (r : Txt) (h : ¬(b = 92 ∧ d = 10)) : index (b :: d :: r) [92, 10] = if index (d :: r) [92, 10] == -1 then -1 else index (d :: r) [92, 10] + 1 := by
  rw [index, if_neg]
  simp [List.isPrefixOf]
  intro e; subst e; intro e2; exact h ⟨rfl, e2.symm⟩
/-- What Index finds, and the one pass behind it. -/
theorem idx_rep (s : Txt) : (index s [92, 10] = -1 ∧ rep2 s = s ∧ occ2 s = 0) ∨
    ∃ i : Nat, index s [92, 10] = (i : Int) ∧ i + 2 ≤ s.length ∧ rep2 s = s.take i ++ [32] ++ rep2 (s.drop (i + 2)) ∧ occ2 s = 1 + occ2 (s.drop (i + 2)) := by
  fun_induction rep2 s with
  | case1 => left; simp [index, occ2]
  | case2 b => left; exact ⟨idx_one b, rfl, by simp [occ2]⟩
  | case3 b d r h ih =>
    obtain ⟨rfl, rfl⟩ := h
    right
    exact ⟨0, idx_hit r, by simp, by simp, by simp [occ2]⟩
  | case4 b d r h ih =>
    rw [idx_miss b d r h]
    have ho : occ2 (b :: d :: r) = occ2 (d :: r) := by rw [occ2, if_neg h]
    rw [ho]
    rcases ih with ⟨h1, h2, h3⟩ | ⟨i, h1, h2, h3, h4⟩
    · left
      exact ⟨by rw [h1]; rfl, by rw [h2], h3⟩
    · right
      refine ⟨i + 1, ?_, ?_, ?_, ?_⟩
      · rw [h1, if_neg (by simp; try omega)]; omega
      · simp at h2 ⊢; omega
      · rw [h3]; simp
      · rw [h4]; simp
theorem rep_K (n : Nat) : ∀ (k : Nat) (s : Txt), s.length ≤ n → occ2 s ≤ k → replaceK [92, 10] [32] k s = rep2 s := by
  induction n with
  | zero =>
    intro k s hs _
    obtain rfl : s = [] := List.length_eq_zero_iff.1 (by omega)
    cases k with
    | zero => simp [replaceK, rep2]
    | succ k => simp [replaceK, index, rep2]
  | succ n ih =>
    intro k s hs hk
    cases k with
    | zero =>
      rcases idx_rep s with ⟨_, h2, _⟩ | ⟨i, _, _, _, h4⟩
      · rw [replaceK, h2]
      · omega
    | succ k =>
      rcases idx_rep s with ⟨h1, h2, _⟩ | ⟨i, h1, h2, h3, h4⟩
      · rw [replaceK, h1, h2]; rfl
      · rw [replaceK_hit _ _ _ _ i h1, h3]
        congr 1
        exact ih k _ (by simp; omega) (by show occ2 (s.drop (i + 2)) ≤ k; omega)
theorem count_occ (n : Nat) : ∀ (f : Nat) (s : Txt), s.length ≤ n → s.length < f → countFrom [92, 10] f s = occ2 s := by
  induction n with
  | zero =>
    intro f s hs hf
    obtain rfl : s = [] := List.length_eq_zero_iff.1 (by omega)
    cases f with
    | zero => simp at hf
    | succ f => simp [countFrom, index, occ2]
  | succ n ih =>
    intro f s hs hf
    cases f with
    | zero => omega
    | succ f =>
      rcases idx_rep s with ⟨h1, _, h3⟩ | ⟨i, h1, h2, _, h4⟩
      · rw [countFrom, h1, h3]; rfl
      · rw [countFrom, h1, if_neg (by simp; try omega), h4]
        congr 1
        have e : ((i : Int).toNat + [92, 10].length) = i + 2 := by simp
        have := ih f (s.drop (i + 2)) (by simp; omega) (by simp; omega)
        simpa using this
theorem rep_all (s : Txt) : replaceAll s [92, 10] [32] = rep2 s := by
  have hc : count s [92, 10] = occ2 s := count_occ _ _ s (Nat.le_refl _) (Nat.lt_succ_self _)
  have hn : replaceNum s [92, 10] (-1) = occ2 s := by rw [replaceNum, if_pos (.inl (by decide)), hc]
  rw [replaceAll, replace, if_neg (by decide), hn]
  exact rep_K _ _ s (Nat.le_refl _) (Nat.le_refl _)
theorem count_B (s : Txt) : countB (B s) (B [92, 10]) = occ2 s := count_occ _ _ s (Nat.le_refl _) (Nat.lt_succ_self _)
end Go.Proofs.YtaocdnebglnkeaaDoor.Dp
