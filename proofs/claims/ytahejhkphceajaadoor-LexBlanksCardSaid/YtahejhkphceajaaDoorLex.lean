/- What lex.Words computes, over lists of bytes, and the plain facts about it. No program in sight. -/
import Derived.Test.YtahejhkphceajaaDoorU
set_option linter.unusedSimpArgs false
set_option linter.unusedVariables false
namespace Go.Proofs.YtahejhkphceajaaDoor.Lex
open Go.RowKit Go.Proofs.YtahejhkphceajaaDoorW.PrintWords Go.Proofs.YtahejhkphceajaaDoor.U

def flushL (w : List UInt8) : List (List UInt8) := if w = [] then [] else [w]
/-- The sign with which a text begins. -/
def signL : List UInt8 → List UInt8
  | [] => []
  | [c] => if c = 124 ∨ c = 58 then [c] else []
  | c :: d :: _ => if c = 124 then (if d = 124 then [124, 124] else [124]) else if c = 58 then [58] else []
/-- The words of a text, behind a word that is begun. -/
def wordsGo : List UInt8 → List UInt8 → List (List UInt8)
  | [], w => flushL w
  | [c], w => if c = 124 ∨ c = 58 then flushL w ++ [[c]] else if c = 32 then flushL w else [w ++ [c]]
  | c :: d :: r, w =>
    if c = 36 then wordsGo r (w ++ [36, d])
    else if c = 124 then (if d = 124 then flushL w ++ [124, 124] :: wordsGo r [] else flushL w ++ [124] :: wordsGo (d :: r) [])
    else if c = 58 then flushL w ++ [58] :: wordsGo (d :: r) []
    else if c = 32 then flushL w ++ wordsGo (d :: r) []
    else wordsGo (d :: r) (w ++ [c])
def words (s : List UInt8) : List (List UInt8) := wordsGo s []

-- one step, byte by byte
theorem go_pair (d : UInt8) (r w : List UInt8) : wordsGo (36 :: d :: r) w = wordsGo r (w ++ [36, d]) := by rw [wordsGo]; simp
theorem go_bars (r w : List UInt8) : wordsGo (124 :: 124 :: r) w = flushL w ++ [124, 124] :: wordsGo r [] := by rw [wordsGo]; simp
theorem go_bar (r w : List UInt8) (h : ∀ x, r ≠ 124 :: x) : wordsGo (124 :: r) w = flushL w ++ [124] :: wordsGo r [] := by
  cases r with
  | nil => simp [wordsGo, flushL]
  | cons d r => rw [wordsGo]; simp; intro h1; exact absurd (h1 ▸ rfl) (h r)
theorem go_colon (r w : List UInt8) : wordsGo (58 :: r) w = flushL w ++ [58] :: wordsGo r [] := by
  cases r with
  | nil => simp [wordsGo, flushL]
  | cons d r => rw [wordsGo]; simp
theorem go_blank (r w : List UInt8) : wordsGo (32 :: r) w = flushL w ++ wordsGo r [] := by
  cases r with
  | nil => simp [wordsGo, flushL]
  | cons d r => rw [wordsGo]; simp
/-- Where a text begins with a sign. -/
theorem sign_step (c : UInt8) (s w : List UInt8) (h : signL (c :: s) ≠ []) : ∃ rest, c :: s = signL (c :: s) ++ rest ∧ wordsGo (c :: s) w = flushL w ++ signL (c :: s) :: wordsGo rest [] ∧ c ≠ 36 := by
  cases s with
  | nil =>
    by_cases hc : c = 124 ∨ c = 58
    · refine ⟨[], by simp [signL, hc], ?_, ?_⟩
      · simp [wordsGo, signL, hc, flushL]
      · rcases hc with rfl | rfl <;> decide
    · simp [signL, hc] at h
  | cons d r =>
    by_cases h1 : c = 124
    · subst h1
      by_cases h2 : d = 124
      · subst h2; exact ⟨r, by simp [signL], by simp [signL, go_bars], by decide⟩
      · exact ⟨d :: r, by simp [signL, h2], by rw [go_bar _ _ (by intro x e; simp at e; exact h2 e.1)]; simp [signL, h2], by decide⟩
    · by_cases h2 : c = 58
      · subst h2; exact ⟨d :: r, by simp [signL], by rw [go_colon]; simp [signL], by decide⟩
      · simp [signL, h1, h2] at h
theorem sign_none (c : UInt8) (s : List UInt8) (h : signL (c :: s) = []) : c ≠ 124 ∧ c ≠ 58 := by
  cases s with
  | nil =>
    by_cases hc : c = 124 ∨ c = 58
    · simp [signL, hc] at h
    · exact ⟨fun e => hc (.inl e), fun e => hc (.inr e)⟩
  | cons d r =>
    constructor
    · rintro rfl; by_cases h2 : d = 124 <;> simp [signL, h2] at h
    · rintro rfl; simp [signL] at h
theorem flush_snoc (w : List UInt8) (c : UInt8) : flushL (w ++ [c]) = [w ++ [c]] := by simp [flushL]
theorem go_plain (c : UInt8) (r w : List UInt8) (h1 : c ≠ 36 ∨ r = []) (h2 : c ≠ 124) (h3 : c ≠ 58) (h4 : c ≠ 32) : wordsGo (c :: r) w = wordsGo r (w ++ [c]) := by
  cases r with
  | nil => simp [wordsGo, h2, h3, h4, flush_snoc]
  | cons d r =>
    rcases h1 with h1 | h1
    · rw [wordsGo]; simp [h1, h2, h3, h4]
    · cases h1
theorem flush_len (w : List UInt8) : (flushL w).length ≤ w.length := by
  unfold flushL; split
  · simp
  · rename_i h; have := List.length_pos_iff.2 h; simp; omega
/-- As many words as bytes, at most. -/
theorem go_len (n : Nat) : ∀ (s w : List UInt8), s.length ≤ n → (wordsGo s w).length ≤ s.length + w.length := by
  induction n with
  | zero =>
    intro s w h
    obtain rfl : s = [] := List.length_eq_zero_iff.1 (by omega)
    simpa [wordsGo] using flush_len w
  | succ n ih =>
    intro s w h
    have hf := flush_len w
    match s, h with
    | [], _ => simpa [wordsGo] using hf
    | [c], _ => rw [wordsGo]; split
                · simp; omega
                · split
                  · simp; omega
                  · simp
    | c :: d :: r, h =>
      simp only [List.length_cons] at h
      have i1 := ih r (w ++ [36, d]) (by omega)
      have i2 := ih r [] (by omega)
      have i3 := ih (d :: r) [] (by simp; omega)
      have i4 := ih (d :: r) (w ++ [c]) (by simp; omega)
      simp at i1 i2 i3 i4
      rw [wordsGo]; split
      · simp; omega
      · split
        · split <;> simp <;> omega
        · split
          · simp; omega
          · split
            · simp; omega
            · simp; omega
theorem words_len (s : List UInt8) : (words s).length ≤ s.length := by simpa [words] using go_len _ s [] (Nat.le_refl _)

-- how the words' bytes add up
def total (l : List (List UInt8)) : Nat := (l.map List.length).sum
theorem total_append (a b : List (List UInt8)) : total (a ++ b) = total a + total b := by simp [total]
theorem total_cons (a : List UInt8) (b : List (List UInt8)) : total (a :: b) = a.length + total b := by simp [total]
theorem total_flush (w : List UInt8) : total (flushL w) ≤ w.length := by unfold flushL; split <;> simp [total]
theorem go_total (n : Nat) : ∀ (s w : List UInt8), s.length ≤ n → total (wordsGo s w) ≤ s.length + w.length := by
  induction n with
  | zero =>
    intro s w h
    obtain rfl : s = [] := List.length_eq_zero_iff.1 (by omega)
    simpa [wordsGo] using total_flush w
  | succ n ih =>
    intro s w h
    have hf := total_flush w
    match s, h with
    | [], _ => simpa [wordsGo] using hf
    | [c], _ => rw [wordsGo]; split
                · simp [total_append, total_cons, total] at hf ⊢; omega
                · split
                  · simp; omega
                  · simp [total]; omega
    | c :: d :: r, h =>
      simp only [List.length_cons] at h
      have i1 := ih r (w ++ [36, d]) (by omega)
      have i2 := ih r [] (by omega)
      have i3 := ih (d :: r) [] (by simp; omega)
      have i4 := ih (d :: r) (w ++ [c]) (by simp; omega)
      simp at i1 i2 i3 i4
      rw [wordsGo]; split
      · simp; omega
      · split
        · split <;> simp [total_append, total_cons] <;> omega
        · split
          · simp [total_append, total_cons]; omega
          · split
            · simp [total_append]; omega
            · simp; omega
theorem words_total (s : List UInt8) : total (words s) ≤ s.length := by simpa [words] using go_total _ s [] (Nat.le_refl _)

/-- A word that is made of whole chunks: a dollar and the byte behind it, or a plain byte. -/
inductive Chunks : List UInt8 → Prop
  | nil : Chunks []
  | pair (d : UInt8) {w : List UInt8} : Chunks w → Chunks (36 :: d :: w)
  | one (c : UInt8) {w : List UInt8} : c ≠ 36 → c ≠ 124 → c ≠ 58 → c ≠ 32 → Chunks w → Chunks (c :: w)
theorem Chunks.append {a b : List UInt8} (h : Chunks a) (k : Chunks b) : Chunks (a ++ b) := by
  induction h with
  | nil => exact k
  | pair d _ ih => exact .pair d ih
  | one c h1 h2 h3 h4 _ ih => exact .one c h1 h2 h3 h4 ih
theorem Chunks.go {w : List UInt8} (h : Chunks w) : ∀ (r v : List UInt8), wordsGo (w ++ r) v = wordsGo r (v ++ w) := by
  induction h with
  | nil => intro r v; simp
  | pair d _ ih => intro r v; rw [List.cons_append, List.cons_append, go_pair, ih]; simp
  | one c h1 h2 h3 h4 _ ih => intro r v; rw [List.cons_append, go_plain c _ _ (.inl h1) h2 h3 h4, ih]; simp
def Sign (w : List UInt8) : Prop := w = [58] ∨ w = [124] ∨ w = [124, 124]
/-- What a word may be: a sign, whole chunks, or whole chunks and a dollar that stands last. -/
def Word (w : List UInt8) : Prop := Sign w ∨ (w ≠ [] ∧ Chunks w) ∨ ∃ v, Chunks v ∧ w = v ++ [36]
theorem flush_word {w : List UInt8} (h : Chunks w) : ∀ x ∈ flushL w, Word x := by
  unfold flushL; split
  · simp
  · rename_i h1; intro x hx; simp at hx; subst hx; exact .inr (.inl ⟨h1, h⟩)
theorem go_words (n : Nat) : ∀ (s w : List UInt8), s.length ≤ n → Chunks w → ∀ x ∈ wordsGo s w, Word x := by
  induction n with
  | zero =>
    intro s w h hw
    obtain rfl : s = [] := List.length_eq_zero_iff.1 (by omega)
    simpa [wordsGo] using flush_word hw
  | succ n ih =>
    intro s w h hw
    have hf := flush_word hw
    match s, h with
    | [], _ => simpa [wordsGo] using hf
    | [c], _ =>
      intro x hx
      rw [wordsGo] at hx
      split at hx
      · rename_i hc
        simp at hx
        rcases hx with hx | rfl
        · exact hf x hx
        · rcases hc with rfl | rfl
          · exact .inl (.inr (.inl rfl))
          · exact .inl (.inl rfl)
      · rename_i hc
        split at hx
        · exact hf x hx
        · rename_i hc2
          simp at hx; subst hx
          by_cases h36 : c = 36
          · subst h36; exact .inr (.inr ⟨w, hw, rfl⟩)
          · exact .inr (.inl ⟨by simp, hw.append (.one c h36 (fun e => hc (.inl e)) (fun e => hc (.inr e)) hc2 .nil)⟩)
    | c :: d :: r, h =>
      simp only [List.length_cons] at h
      intro x hx
      rw [wordsGo] at hx
      split at hx
      · exact ih r _ (by omega) (hw.append (.pair d .nil)) x hx
      · rename_i h1
        split at hx
        · split at hx
          · simp at hx
            rcases hx with hx | rfl | hx
            · exact hf x hx
            · exact .inl (.inr (.inr rfl))
            · exact ih r [] (by omega) .nil x hx
          · simp at hx
            rcases hx with hx | rfl | hx
            · exact hf x hx
            · exact .inl (.inr (.inl rfl))
            · exact ih (d :: r) [] (by simp; omega) .nil x hx
        · rename_i h2
          split at hx
          · simp at hx
            rcases hx with hx | rfl | hx
            · exact hf x hx
            · exact .inl (.inl rfl)
            · exact ih (d :: r) [] (by simp; omega) .nil x hx
          · rename_i h3
            split at hx
            · simp at hx
              rcases hx with hx | hx
              · exact hf x hx
              · exact ih (d :: r) [] (by simp; omega) .nil x hx
            · rename_i h4
              exact ih (d :: r) _ (by simp; omega) (hw.append (.one c h1 h2 h3 h4 .nil)) x hx
theorem words_word (s : List UInt8) : ∀ x ∈ words s, Word x := go_words _ s [] (Nat.le_refl _) .nil
theorem Word.ne_nil {w : List UInt8} (h : Word w) : w ≠ [] := by
  rcases h with (rfl | rfl | rfl) | ⟨h, _⟩ | ⟨v, _, rfl⟩ <;> simp_all
/-- Words, each behind a blank. -/
def joined (l : List (List UInt8)) : List UInt8 := (l.map fun w => 32 :: w).flatten
/-- The words of words that are joined by blanks. -/
theorem words_joined (l : List (List UInt8)) (h : ∀ w ∈ l, Word w) (h36 : ∀ w ∈ l, w.getLast? ≠ some 36) : words (joined l) = l := by
  unfold words
  suffices ∀ r : List UInt8, (r = [] ∨ ∃ t, r = 32 :: t) → wordsGo (joined l ++ r) [] = l ++ wordsGo r [] by
    have := this [] (.inl rfl); simpa [wordsGo, flushL] using this
  induction l with
  | nil => intro r _; simp [joined]
  | cons w l ih =>
    intro r hr
    have ih := ih (fun x hx => h x (by simp [hx])) (fun x hx => h36 x (by simp [hx])) r hr
    have e : joined (w :: l) ++ r = 32 :: (w ++ (joined l ++ r)) := by simp [joined]
    rw [e, go_blank]
    have hnext : joined l ++ r = [] ∨ ∃ t, joined l ++ r = 32 :: t := by
      cases l with
      | nil => simpa [joined] using hr
      | cons x l => exact .inr ⟨_, by simp [joined]; rfl⟩
    have hfl : flushL ([] : List UInt8) = [] := rfl
    rw [hfl, List.nil_append]
    rcases h w (by simp) with (rfl | rfl | rfl) | ⟨hn, hc⟩ | ⟨v, hc, rfl⟩
    · rw [List.cons_append, List.nil_append, go_colon, ih]; simp [flushL]
    · rw [List.cons_append, List.nil_append, go_bar, ih]
      · simp [flushL]
      · intro x hx; rcases hnext with h1 | ⟨t, h1⟩ <;> rw [h1] at hx <;> simp at hx
    · rw [List.cons_append, List.cons_append, List.nil_append, go_bars, ih]; simp [flushL]
    · rw [hc.go, List.nil_append]
      rcases hnext with h1 | ⟨t, h1⟩
      · rw [h1] at ih ⊢
        rw [wordsGo] at ih ⊢
        simp [flushL] at ih
        simp [flushL, hn, ih.1, ih.2]
      · rw [h1] at ih ⊢
        rw [go_blank] at ih ⊢
        simp [flushL] at ih
        simp [flushL, hn, ih]
    · exact absurd (by simp) (h36 (v ++ [36]) (by simp))
end Go.Proofs.YtahejhkphceajaaDoor.Lex
