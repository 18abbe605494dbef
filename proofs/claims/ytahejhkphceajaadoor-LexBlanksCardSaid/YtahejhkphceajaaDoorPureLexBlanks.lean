/- LexBlanks: blanks between words, and at a line's ends, change no words, nor does a line that goes on; for every row of numbers (of more than 60 the law says nothing). -/
import Derived.Test.YtahejhkphceajaaDoorLexLawD
import Derived.Test.YtahejhkphceajaaDoorLinesF
import Derived.Test.YtahejhkphceajaaDoorPBellowslaw09LexBlanks0
set_option linter.unusedSimpArgs false
set_option linter.unusedVariables false
namespace Go.Proofs.YtahejhkphceajaaDoor.Pure
open Go.RowKit Go.Proofs.YtahejhkphceajaaDoor.P Go.Proofs.YtahejhkphceajaaDoorW.PrintWords Go.Proofs.YtahejhkphceajaaDoorW.PrintLast Go.Proofs.YtahejhkphceajaaDoor.U Go.Proofs.YtahejhkphceajaaDoor.Lex Go.Proofs.YtahejhkphceajaaDoor.Ln

namespace LexBlanks
def nine : List Txt := [[97], [98, 99], [100, 36, 32, 101], [102, 36, 36], [58], [124], [124, 124], [36, 103], [104, 36, 58, 105]]
/-- What the nine words have in common. -/
theorem nine_facts : ∀ w ∈ nine, (10 : UInt8) ∉ w ∧ okL w = true ∧ w.length ≤ 4 ∧ w.head? ≠ some 32 ∧ w.head? ≠ some 35 ∧ w ≠ [] := by decide +kernel
theorem wordsGo_nine (w : Txt) (h : w ∈ nine) (r : Txt) : wordsGo (w ++ 32 :: r) [] = w :: wordsGo r [] := by
  have chunk : ∀ w : Txt, Chunks w → w ≠ [] → wordsGo (w ++ 32 :: r) [] = w :: wordsGo r [] := by
    intro w hc hn
    rw [hc.go, go_blank, List.nil_append, flushL, if_neg hn]; rfl
  simp only [nine, List.mem_cons, List.mem_nil_iff, or_false] at h
  rcases h with rfl | rfl | rfl | rfl | rfl | rfl | rfl | rfl | rfl
  · exact chunk _ (.one _ (by decide) (by decide) (by decide) (by decide) .nil) (by decide)
  · exact chunk _ (.one _ (by decide) (by decide) (by decide) (by decide) (.one _ (by decide) (by decide) (by decide) (by decide) .nil)) (by decide)
  · exact chunk _ (.one _ (by decide) (by decide) (by decide) (by decide) (.pair _ (.one _ (by decide) (by decide) (by decide) (by decide) .nil))) (by decide)
  · exact chunk _ (.one _ (by decide) (by decide) (by decide) (by decide) (.pair _ .nil)) (by decide)
  · show wordsGo (58 :: 32 :: r) [] = _
    rw [go_colon, go_blank]; rfl
  · show wordsGo (124 :: 32 :: r) [] = _
    rw [go_bar _ _ (by intro x hx; cases hx), go_blank]; rfl
  · show wordsGo (124 :: 124 :: 32 :: r) [] = _
    rw [go_bars, go_blank]; rfl
  · exact chunk _ (.pair _ .nil) (by decide)
  · exact chunk _ (.one _ (by decide) (by decide) (by decide) (by decide) (.pair _ (.one _ (by decide) (by decide) (by decide) (by decide) .nil))) (by decide)
theorem go_32 (r : Txt) : wordsGo (32 :: r) [] = wordsGo r [] := by rw [go_blank]; rfl
def plainT (ws : List Txt) : Txt := ws.flatMap (· ++ [32])
def V (ws : List Txt) : Txt := ws.flatMap (· ++ [32, 32, 32, 32])
def F (ws : List Txt) : Txt := ws.flatMap (· ++ [32, 32, 32, 32, 36, 10, 32, 32])
def wideT (q : Bool) (ws : List Txt) : Txt := [32, 32, 32] ++ if q then F ws else V ws
theorem words_z : wordsGo [122] [] = [[122]] := by
  rw [go_plain 122 [] [] (.inl (by decide)) (by decide) (by decide) (by decide), wordsGo]; rfl
theorem words_plain (ws : List Txt) (h : ∀ w ∈ ws, w ∈ nine) : words (plainT ws ++ [122]) = ws ++ [[122]] := by
  unfold words
  induction ws with
  | nil => exact words_z
  | cons w ws ih =>
    have e : plainT (w :: ws) ++ [122] = w ++ 32 :: (plainT ws ++ [122]) := by simp [plainT]
    rw [e, wordsGo_nine w (h w (by simp)), ih (fun x hx => h x (by simp [hx]))]; rfl
theorem words_V (ws : List Txt) (h : ∀ w ∈ ws, w ∈ nine) : words (V ws ++ [122]) = ws ++ [[122]] := by
  unfold words
  induction ws with
  | nil => exact words_z
  | cons w ws ih =>
    have e : V (w :: ws) ++ [122] = w ++ 32 :: (32 :: 32 :: 32 :: (V ws ++ [122])) := by simp [V]
    rw [e, wordsGo_nine w (h w (by simp)), go_32, go_32, go_32, ih (fun x hx => h x (by simp [hx]))]; rfl
theorem okL_append (a b : Txt) : okL (a ++ b) = (okL a && okL b) := List.all_append
theorem ok_flat (ws : List Txt) (h : ∀ w ∈ ws, w ∈ nine) (t : Txt) (ht : okL t = true) : okL (ws.flatMap (· ++ t)) = true := by
  induction ws with
  | nil => rfl
  | cons w ws ih =>
    rw [List.flatMap_cons, okL_append, okL_append, (nine_facts w (h w (by simp))).2.1, ht, ih (fun x hx => h x (by simp [hx]))]; rfl
theorem no10_flat (ws : List Txt) (h : ∀ w ∈ ws, w ∈ nine) (t : Txt) (ht : (10 : UInt8) ∉ t) : (10 : UInt8) ∉ ws.flatMap (· ++ t) := by
  intro hm
  obtain ⟨w, hw, hx⟩ := List.mem_flatMap.1 hm
  rcases List.mem_append.1 hx with hx | hx
  · exact (nine_facts w (h w hw)).1 hx
  · exact ht hx
theorem len_flat (ws : List Txt) (h : ∀ w ∈ ws, w ∈ nine) (t : Txt) : (ws.flatMap (· ++ t)).length ≤ (4 + t.length) * ws.length := by
  induction ws with
  | nil => simp
  | cons w ws ih =>
    have := (nine_facts w (h w (by simp))).2.2.1
    have := ih (fun x hx => h x (by simp [hx]))
    rw [List.flatMap_cons, List.length_append, List.length_append, List.length_cons, Nat.mul_add]; omega
theorem head_flat (ws : List Txt) (h : ∀ w ∈ ws, w ∈ nine) (t : Txt) (z : Txt) (hz : z.head? ≠ some 32 ∧ z.head? ≠ some 35) : (ws.flatMap (· ++ t) ++ z).head? ≠ some 32 ∧ (ws.flatMap (· ++ t) ++ z).head? ≠ some 35 := by
  cases ws with
  | nil => exact hz
  | cons w ws =>
    obtain ⟨_, _, _, f1, f2, f3⟩ := nine_facts w (h w (by simp))
    cases w with
    | nil => exact absurd rfl f3
    | cons c w => simp at f1 f2 ⊢; exact ⟨f1, f2⟩
theorem trimL_head (l : Txt) (h : l.head? ≠ some 32) : trimL 32 l = l := by
  cases l with
  | nil => rfl
  | cons c l =>
    have : (c == 32) = false := by rw [beq_eq_false_iff_ne]; intro e; subst e; exact h rfl
    simp [trimL, Lib.trimLeftB, List.dropWhile_cons, this]
theorem trimL_blank (l : Txt) : trimL 32 (32 :: l) = trimL 32 l := by simp [trimL, Lib.trimLeftB, List.dropWhile_cons]
theorem trimR_ne (c b : UInt8) (hb : b ≠ c) (l : Txt) : trimR c (l ++ [b]) = l ++ [b] := by
  have hb' : (b == c) = false := by rw [beq_eq_false_iff_ne]; exact hb
  simp [trimR, Lib.trimRightB, List.dropWhile_cons, hb']
theorem trimR_eq (c : UInt8) (l : Txt) : trimR c (l ++ [c]) = trimR c l := by
  simp [trimR, Lib.trimRightB, List.dropWhile_cons]
theorem odd_no (l : Txt) (b : UInt8) (hb : b ≠ 36) : oddL (l ++ [b]) = false := by
  rw [oddL, trimR_ne 36 b hb]; simp
theorem odd_yes (l : Txt) (b : UInt8) (hb : b ≠ 36) : oddL (l ++ [b] ++ [36]) = true := by
  rw [oddL, trimR_eq, trimR_ne 36 b hb]
  simp
theorem trimmed_z (l : Txt) (h : (l ++ [122]).head? ≠ some 32) : trimmedL ([32, 32, 32] ++ l ++ [122, 32, 32]) = l ++ [122] := by
  have e : [32, 32, 32] ++ l ++ [122, 32, 32] = 32 :: 32 :: 32 :: (l ++ [122] ++ [32] ++ [32]) := by simp
  have e1 : trimL 32 ([32, 32, 32] ++ l ++ [122, 32, 32]) = l ++ [122] ++ [32] ++ [32] := by
    rw [e, trimL_blank, trimL_blank, trimL_blank, trimL_head]
    cases l with
    | nil => exact h
    | cons c l => exact h
  have e2 : trimR 32 (l ++ [122] ++ [32] ++ [32]) = l ++ [122] := by rw [trimR_eq, trimR_eq, trimR_ne 32 122 (by decide)]
  rw [trimmedL, e1, e2, if_neg]
  rw [odd_no l 122 (by decide)]; simp
theorem trimmed_plain (l : Txt) (h : (l ++ [122]).head? ≠ some 32) : trimmedL (l ++ [122]) = l ++ [122] := by
  rw [trimmedL, trimL_head _ h, trimR_ne 32 122 (by decide), if_neg]
  simp
theorem emptyL_head (l : Txt) (hne : l ≠ []) (h1 : l.head? ≠ some 32) (h2 : l.head? ≠ some 35) : emptyL l = false := by
  rw [emptyL, trimL_head l h1]
  cases l with
  | nil => exact absurd rfl hne
  | cons c l => simp at h2 ⊢; exact h2
theorem emptyL_blank (l : Txt) : emptyL (32 :: l) = emptyL l := by rw [emptyL, emptyL, trimL_blank]
theorem lines_plain (ws : List Txt) (h : ∀ w ∈ ws, w ∈ nine) (hl : ws.length ≤ 60) : linesL (plainT ws ++ [122]) = ([⟨false, plainT ws ++ [122], 1⟩], 0, 0) := by
  have hlen := len_flat ws h [32]
  have hh := head_flat ws h [32] [122] ⟨by decide, by decide⟩
  have h10 : (10 : UInt8) ∉ plainT ws ++ [122] := by
    intro hm
    rcases List.mem_append.1 hm with hm | hm
    · exact no10_flat ws h [32] (by decide) hm
    · exact absurd hm (by decide)
  have hok : okL (plainT ws ++ [122]) = true := by rw [okL_append]; rw [show okL (plainT ws) = true from ok_flat ws h [32] (by decide +kernel)]; decide +kernel
  rw [linesL, if_neg (by rw [List.length_append]; unfold plainT; simp at hlen ⊢; omega), spl_none 10 _ h10]
  have hem : emptyL (plainT ws ++ [122]) = false := emptyL_head _ (by simp) hh.1 hh.2
  have hhd : ((plainT ws ++ [122]).head? == some 32) = false := by rw [beq_eq_false_iff_ne]; exact hh.1
  rw [linesGo, if_neg (fun q => Bool.noConfusion (q.symm.trans hok)), if_neg (fun q => Bool.noConfusion (q.2.symm.trans hem)), if_neg (by rw [odd_no _ 122 (by decide)]; decide)]
  simp only [opened, hhd, trimmed_plain (plainT ws) hh.1]
  rfl
def tail6 : Txt := [122, 32, 32, 10, 10, 35]
theorem go_tail (total i : Nat) (o : LineT) (p : Txt) (hp : okL p = true) (out : List LineT) : linesGo total ([p ++ [122, 32, 32], [], [35]]) i out (some o) = .ok (out ++ [⟨o.inner, trimmedL (o.text ++ trimL 32 (p ++ [122, 32, 32])), o.num⟩]) := by
  have hok : okL (p ++ [122, 32, 32]) = true := by rw [okL_append, hp]; decide +kernel
  have hod : oddL (p ++ [122, 32, 32]) = false := by
    have := odd_no (p ++ [122, 32]) 32 (by decide)
    simpa using this
  rw [linesGo, if_neg (fun q => Bool.noConfusion (q.symm.trans hok)), if_neg (fun q => by cases q.1), if_neg (fun q => Bool.noConfusion (q.symm.trans hod))]
  rw [linesGo, if_neg (by decide +kernel), if_pos ⟨rfl, by decide +kernel⟩]
  rw [linesGo, if_neg (by decide +kernel), if_pos ⟨rfl, by decide +kernel⟩]
  rfl
theorem go_on (ws : List Txt) (h : ∀ w ∈ ws, w ∈ nine) (total : Nat) : ∀ (i : Nat) (o : LineT), i + ws.length + 3 ≤ total →
    linesGo total (spl 10 ([32, 32] ++ F ws ++ tail6)) i [] (some o) = .ok [⟨o.inner, trimmedL (o.text ++ V ws ++ [122, 32, 32]), o.num⟩] := by
  induction ws with
  | nil =>
    intro i o hi
    have e : spl 10 ([32, 32] ++ F [] ++ tail6) = [[32, 32] ++ [122, 32, 32], [], [35]] := by decide
    rw [e, go_tail total i o [32, 32] (by decide +kernel)]
    have e2 : trimL 32 ([32, 32] ++ [122, 32, 32]) = [122, 32, 32] := by decide
    rw [e2]; simp [V]
  | cons w ws ih =>
    intro i o hi
    simp only [List.length_cons] at hi
    obtain ⟨f1, f2, f3, f4, f5, f6⟩ := nine_facts w (h w (by simp))
    have e : [32, 32] ++ F (w :: ws) ++ tail6 = ([32, 32] ++ w ++ [32, 32, 32, 32, 36]) ++ 10 :: ([32, 32] ++ F ws ++ tail6) := by simp [F]
    have h10 : (10 : UInt8) ∉ [32, 32] ++ w ++ [32, 32, 32, 32, 36] := by simp [f1]
    have hok : okL ([32, 32] ++ w ++ [32, 32, 32, 32, 36]) = true := by rw [okL_append, okL_append, f2]; decide +kernel
    have hod : oddL ([32, 32] ++ w ++ [32, 32, 32, 32, 36]) = true := by
      have := odd_yes ([32, 32] ++ w ++ [32, 32, 32]) 32 (by decide)
      simpa using this
    have htr : trimL 32 ([32, 32] ++ w ++ [32, 32, 32, 32, 36]) = w ++ [32, 32, 32, 32] ++ [36] := by
      show trimL 32 (32 :: 32 :: (w ++ [32, 32, 32, 32, 36])) = _
      rw [trimL_blank, trimL_blank, trimL_head]
      · simp
      · cases w with
        | nil => exact absurd rfl f6
        | cons c w => simpa using f4
    rw [e, spl_at 10 _ _ h10, linesGo, if_neg (fun q => Bool.noConfusion (q.symm.trans hok)), if_neg (fun q => by cases q.1), if_pos hod, if_neg (by omega)]
    have ho : { opened i ([32, 32] ++ w ++ [32, 32, 32, 32, 36]) (some o) with text := (opened i ([32, 32] ++ w ++ [32, 32, 32, 32, 36]) (some o)).text.dropLast } = (⟨o.inner, o.text ++ w ++ [32, 32, 32, 32], o.num⟩ : LineT) := by
      simp only [opened, htr]
      rw [← List.append_assoc, List.dropLast_concat, List.append_assoc]
    rw [ho, ih (fun x hx => h x (by simp [hx])) (i + 1) _ (by omega)]
    simp [V]
theorem go_wide (q : Bool) (ws : List Txt) (h : ∀ w ∈ ws, w ∈ nine) (total : Nat) (ht : 3 + (if q then ws.length else 0) + 3 ≤ total) :
    linesGo total (spl 10 (wideT q ws ++ tail6)) 3 [] none = .ok [⟨true, V ws ++ [122], 4⟩] := by
  have hh := head_flat ws h [32, 32, 32, 32] [122] ⟨by decide, by decide⟩
  have single : wideT q ws ++ tail6 = ([32, 32, 32] ++ V ws ++ [122, 32, 32]) ++ 10 :: ([] ++ 10 :: [35]) → linesGo total (spl 10 (wideT q ws ++ tail6)) 3 [] none = .ok [⟨true, V ws ++ [122], 4⟩] := by
    intro e
    have h10 : (10 : UInt8) ∉ [32, 32, 32] ++ V ws ++ [122, 32, 32] := by
      have := no10_flat ws h [32, 32, 32, 32] (by decide)
      intro hm
      rcases List.mem_append.1 hm with hm | hm
      · rcases List.mem_append.1 hm with hm | hm
        · exact absurd hm (by decide)
        · exact this hm
      · exact absurd hm (by decide)
    have hok : okL ([32, 32, 32] ++ V ws ++ [122, 32, 32]) = true := by
      rw [okL_append, okL_append, show okL (V ws) = true from ok_flat ws h [32, 32, 32, 32] (by decide +kernel)]; decide +kernel
    have hod : oddL ([32, 32, 32] ++ V ws ++ [122, 32, 32]) = false := by
      have := odd_no ([32, 32, 32] ++ V ws ++ [122, 32]) 32 (by decide)
      simpa using this
    have hem : emptyL ([32, 32, 32] ++ V ws ++ [122, 32, 32]) = false := by
      have e2 : [32, 32, 32] ++ V ws ++ [122, 32, 32] = 32 :: 32 :: 32 :: (V ws ++ [122, 32, 32]) := by simp
      have h3 := head_flat ws h [32, 32, 32, 32] [122, 32, 32] ⟨by decide, by decide⟩
      rw [e2, emptyL_blank, emptyL_blank, emptyL_blank]
      exact emptyL_head _ (by simp) h3.1 h3.2
    rw [e, spl_at 10 _ _ h10, spl_at 10 [] _ (by decide), spl_none 10 [35] (by decide)]
    rw [linesGo, if_neg (fun q => Bool.noConfusion (q.symm.trans hok)), if_neg (fun q => Bool.noConfusion (q.2.symm.trans hem)), if_neg (fun q => Bool.noConfusion (q.symm.trans hod))]
    rw [linesGo, if_neg (by decide +kernel), if_pos ⟨rfl, by decide +kernel⟩]
    rw [linesGo, if_neg (by decide +kernel), if_pos ⟨rfl, by decide +kernel⟩]
    simp only [opened, trimmed_z (V ws) hh.1]
    rfl
  cases q with
  | false => exact single (by simp [wideT, tail6])
  | true =>
    cases ws with
    | nil => exact single (by simp [wideT, tail6, F, V])
    | cons w ws =>
      obtain ⟨f1, f2, f3, f4, f5, f6⟩ := nine_facts w (h w (by simp))
      have e : wideT true (w :: ws) ++ tail6 = ([32, 32, 32] ++ w ++ [32, 32, 32, 32, 36]) ++ 10 :: ([32, 32] ++ F ws ++ tail6) := by simp [wideT, F]
      have h10 : (10 : UInt8) ∉ [32, 32, 32] ++ w ++ [32, 32, 32, 32, 36] := by simp [f1]
      have hok : okL ([32, 32, 32] ++ w ++ [32, 32, 32, 32, 36]) = true := by rw [okL_append, okL_append, f2]; decide +kernel
      have hod : oddL ([32, 32, 32] ++ w ++ [32, 32, 32, 32, 36]) = true := by
        have := odd_yes ([32, 32, 32] ++ w ++ [32, 32, 32]) 32 (by decide)
        simpa using this
      have hem : emptyL ([32, 32, 32] ++ w ++ [32, 32, 32, 32, 36]) = false := by
        have e2 : [32, 32, 32] ++ w ++ [32, 32, 32, 32, 36] = 32 :: 32 :: 32 :: (w ++ [32, 32, 32, 32, 36]) := by simp
        rw [e2, emptyL_blank, emptyL_blank, emptyL_blank]
        cases w with
        | nil => exact absurd rfl f6
        | cons c w => exact emptyL_head _ (by simp) (by simpa using f4) (by simpa using f5)
      simp only [List.length_cons, if_true] at ht
      rw [e, spl_at 10 _ _ h10, linesGo, if_neg (fun q => Bool.noConfusion (q.symm.trans hok)), if_neg (fun q => Bool.noConfusion (q.2.symm.trans hem)), if_pos hod, if_neg (by omega)]
      have ho : { opened 3 ([32, 32, 32] ++ w ++ [32, 32, 32, 32, 36]) none with text := (opened 3 ([32, 32, 32] ++ w ++ [32, 32, 32, 32, 36]) none).text.dropLast } = (⟨true, [32, 32, 32] ++ w ++ [32, 32, 32, 32], 4⟩ : LineT) := by
        simp only [opened]
        have : [32, 32, 32] ++ w ++ [32, 32, 32, 32, 36] = [32, 32, 32] ++ w ++ [32, 32, 32, 32] ++ [36] := by simp
        rw [this, List.dropLast_concat]; rfl
      rw [ho, go_on ws (fun x hx => h x (by simp [hx])) total 4 _ (by omega)]
      have e3 : [32, 32, 32] ++ w ++ [32, 32, 32, 32] ++ V ws = [32, 32, 32] ++ V (w :: ws) := by simp [V]
      show Except.ok [(⟨true, trimmedL ([32, 32, 32] ++ w ++ [32, 32, 32, 32] ++ V ws ++ [122, 32, 32]), 4⟩ : LineT)] = _
      rw [e3, trimmed_z (V (w :: ws)) hh.1]
def head9 : Txt := [10, 35, 32, 120, 36, 10, 32, 32, 10]
theorem wide_len (q : Bool) (ws : List Txt) (h : ∀ w ∈ ws, w ∈ nine) : (wideT q ws).length ≤ 3 + 12 * ws.length := by
  have h1 := len_flat ws h [32, 32, 32, 32]
  have h2 := len_flat ws h [32, 32, 32, 32, 36, 10, 32, 32]
  simp at h1 h2
  cases q <;> simp [wideT, F, V] <;> omega
theorem wide_count (q : Bool) (ws : List Txt) : 3 + (if q then ws.length else 0) + 3 ≤ (spl 10 (head9 ++ (wideT q ws ++ tail6))).length := by
  rw [spl_len]
  cases q with
  | false => simp [head9, wideT, tail6, List.count_append, List.count_cons] <;> try omega
  | true =>
    have : ws.length ≤ (F ws).count 10 := by
      induction ws with
      | nil => simp
      | cons w ws ih => simp [F, List.count_append, List.count_cons] at ih ⊢; omega
    simp [head9, wideT, tail6, List.count_append, List.count_cons] <;> try omega
theorem lines_wide (q : Bool) (ws : List Txt) (h : ∀ w ∈ ws, w ∈ nine) (hl : ws.length ≤ 60) : linesL (head9 ++ wideT q ws ++ tail6) = ([⟨true, V ws ++ [122], 4⟩], 0, 0) := by
  have hwl := wide_len q ws h
  have e : head9 ++ (wideT q ws ++ tail6) = [] ++ 10 :: ([35, 32, 120, 36] ++ 10 :: ([32, 32] ++ 10 :: (wideT q ws ++ tail6))) := by simp [head9]
  have hs : spl 10 (head9 ++ (wideT q ws ++ tail6)) = [] :: [35, 32, 120, 36] :: [32, 32] :: spl 10 (wideT q ws ++ tail6) := by
    rw [e, spl_at 10 [] _ (by decide), spl_at 10 [35, 32, 120, 36] _ (by decide), spl_at 10 [32, 32] _ (by decide)]
  have hc := wide_count q ws
  rw [List.append_assoc, linesL, if_neg (by simp [head9, tail6]; omega)]
  generalize (spl 10 (head9 ++ (wideT q ws ++ tail6))).length = total at hc
  rw [hs, linesGo, if_neg (by decide +kernel), if_pos ⟨rfl, by decide +kernel⟩]
  rw [linesGo, if_neg (by decide +kernel), if_pos ⟨rfl, by decide +kernel⟩]
  rw [linesGo, if_neg (by decide +kernel), if_pos ⟨rfl, by decide +kernel⟩]
  rw [go_wide q ws h total hc]; rfl
theorem nine_cases {k : Nat} (h : k < 9) : k = 0 ∨ k = 1 ∨ k = 2 ∨ k = 3 ∨ k = 4 ∨ k = 5 ∨ k = 6 ∨ k = 7 ∨ k = 8 := by omega
theorem loop (x0 : List Int) (a1 : Int) (q : Bool) (hq : (Int.tmod (wrap64 a1) 3 = 0) ↔ q = true) (hx : x0.length ≤ 60) (hwf : ∀ x ∈ x0, 0 ≤ x ∧ x ≤ 65535) (d : Nat) :
    ∀ (i : Nat) (ws : List Txt), i + d = x0.length → ws.length = i → (∀ w ∈ ws, w ∈ nine) →
    Ev (fun k => bellowslaw09_LexBlanks.l0 k x0 a1 (ws.map B) (B (plainT ws)) (B (wideT q ws)) (i : Int)) true := by
  induction d with
  | zero =>
    intro i ws hi hw h
    refine Ev.unroll ?_
    have h1 : ¬ (i : Int) < (x0.length : Int) := by omega
    have hp := len_flat ws h [32]
    have hwl := wide_len q ws h
    have hv := len_flat ws h [32, 32, 32, 32]
    simp only [List.length_cons, List.length_nil] at hp hv
    have hpl : (plainT ws).length ≤ (4 + (0 + 1)) * ws.length := hp
    have hvl : (V ws).length ≤ (4 + (0 + 1 + 1 + 1 + 1)) * ws.length := hv
    have s1 : (B (plainT ws)).size + 1 ≤ 9223372036854775807 := by rw [size_B]; omega
    have s2 : 9 + (B (wideT q ws)).size ≤ 9223372036854775807 := by rw [size_B]; omega
    have e1 : B (plainT ws) ++ (⟨#[122]⟩ : ByteArray) = B (plainT ws ++ [122]) := B_append _ [122]
    have e2 : (⟨#[10, 35, 32, 120, 36, 10, 32, 32, 10]⟩ : ByteArray) ++ B (wideT q ws) = B (head9 ++ wideT q ws) := B_append head9 _
    have e3 : B (head9 ++ wideT q ws) ++ (⟨#[122, 32, 32, 10, 10, 35]⟩ : ByteArray) = B (head9 ++ wideT q ws ++ tail6) := B_append _ tail6
    have s3 : (B (head9 ++ wideT q ws)).size + 6 ≤ 9223372036854775807 := by rw [size_B, List.length_append]; simp [head9]; omega
    have l1 : lex_Lines.f (B (plainT ws ++ [122])) = some ([lineS ⟨false, plainT ws ++ [122], 1⟩], 0, 0) := by
      show some ((linesL (plainT ws ++ [122])).1.map lineS, ((linesL (plainT ws ++ [122])).2.1 : Int), (linesL (plainT ws ++ [122])).2.2) = _
      rw [lines_plain ws h (by omega)]; rfl
    have l2 : lex_Lines.f (B (head9 ++ wideT q ws ++ tail6)) = some ([lineS ⟨true, V ws ++ [122], 4⟩], 0, 0) := by
      show some ((linesL (head9 ++ wideT q ws ++ tail6)).1.map lineS, ((linesL (head9 ++ wideT q ws ++ tail6)).2.1 : Int), (linesL (head9 ++ wideT q ws ++ tail6)).2.2) = _
      rw [lines_wide q ws h (by omega)]; rfl
    simp only [bellowslaw09_LexBlanks.l0, if_neg h1, if_pos s1, if_pos s2, e1, e2, if_pos s3, e3, l1, l2, Option.bind_some, if_true]
    have h5 : ((([lineS ⟨false, plainT ws ++ [122], 1⟩] : List _).length : Int) = 1) := rfl
    have h6 : ((([lineS ⟨true, V ws ++ [122], 4⟩] : List _).length : Int) != 1) = false := rfl
    simp only [if_pos h5, h6]
    refine Ev.unroll ?_
    have h7 : (ws.map B).length < 8796093022208 := by rw [List.length_map]; omega
    have h8 : ws.map B ++ [(⟨#[122]⟩ : ByteArray)] = (ws ++ [[122]]).map B := by rw [List.map_append]; rfl
    have h9 : (0 : Int) < (([lineS ⟨false, plainT ws ++ [122], 1⟩] : List _).length : Int) := by show (0 : Int) < 1; decide
    have h10 : (0 : Int) < (([lineS ⟨true, V ws ++ [122], 4⟩] : List _).length : Int) := by show (0 : Int) < 1; decide
    have r1 : (rd_T35 [lineS ⟨false, plainT ws ++ [122], 1⟩] 0) = ⟨false, B (plainT ws ++ [122]), 1⟩ := rfl
    have r2 : (rd_T35 [lineS ⟨true, V ws ++ [122], 4⟩] 0) = ⟨true, B (V ws ++ [122]), 4⟩ := rfl
    have w1 : lex_Words.f (B (plainT ws ++ [122])) = some ((ws ++ [[122]]).map B) := by rw [words_f _ (by rw [List.length_append]; simp; omega), words_plain ws h]
    have w2 : lex_Words.f (B (V ws ++ [122])) = some ((ws ++ [[122]]).map B) := by rw [words_f _ (by rw [List.length_append]; simp; omega), words_V ws h]
    have hs := same_self ((ws ++ [[122]]).map B) (by simp; omega)
    simp only [bellowslaw09_LexBlanks.j1, Bool.false_eq_true, if_false, if_pos h7, h8, Option.bind_some, if_pos h9, if_pos h10, r1, r2, w1, w2]
    refine Ev.bind hs ?_
    simp only [if_true]
    refine Ev.bind hs ?_
    simp only [if_true]
    exact Ev.bind awake_true (Ev.now _)
  | succ d ih =>
    intro i ws hi hw h
    refine Ev.unroll ?_
    have hlt : i < x0.length := by omega
    have h1 : (i : Int) < (x0.length : Int) := by omega
    have h2 : (0 : Int) ≤ (i : Int) := by omega
    have hwr := wrap_succ i (by omega)
    have hp := len_flat ws h [32]
    have hwl := wide_len q ws h
    simp only [List.length_cons, List.length_nil] at hp
    have hpl : (plainT ws).length ≤ (4 + (0 + 1)) * ws.length := hp
    have s5 : (ws.map B).length < 8796093022208 := by rw [List.length_map]; omega
    obtain ⟨k, hk, hv⟩ : ∃ k : Nat, k < 9 ∧ Int.tmod (wrap64 (rd x0 (i : Int))) 9 = (k : Int) := by
      have hb := hwf x0[i] (List.getElem_mem hlt)
      have e : rd x0 (i : Int) = x0[i] := by simp [rd, hlt]
      rw [e, wrap_id _ (by omega) (by omega)]
      have t1 := Int.tmod_nonneg 9 hb.1
      have t2 := Int.tmod_lt_of_pos x0[i] (show (0 : Int) < 9 by decide)
      exact ⟨(Int.tmod x0[i] 9).toNat, by omega, by omega⟩
    obtain ⟨w, hwn, hp9, hk9⟩ : ∃ w, w ∈ nine ∧ rdOf ByteArray.empty ([(⟨#[97]⟩ : ByteArray), (⟨#[98, 99]⟩ : ByteArray), (⟨#[100, 36, 32, 101]⟩ : ByteArray), (⟨#[102, 36, 36]⟩ : ByteArray), (⟨#[58]⟩ : ByteArray), (⟨#[124]⟩ : ByteArray), (⟨#[124, 124]⟩ : ByteArray), (⟨#[36, 103]⟩ : ByteArray), (⟨#[104, 36, 58, 105]⟩ : ByteArray)] : List ByteArray) (k : Int) = B w ∧
        (k : Int) < (([(⟨#[97]⟩ : ByteArray), (⟨#[98, 99]⟩ : ByteArray), (⟨#[100, 36, 32, 101]⟩ : ByteArray), (⟨#[102, 36, 36]⟩ : ByteArray), (⟨#[58]⟩ : ByteArray), (⟨#[124]⟩ : ByteArray), (⟨#[124, 124]⟩ : ByteArray), (⟨#[36, 103]⟩ : ByteArray), (⟨#[104, 36, 58, 105]⟩ : ByteArray)] : List ByteArray).length : Int) := by
      rcases nine_cases hk with rfl | rfl | rfl | rfl | rfl | rfl | rfl | rfl | rfl
      · exact ⟨[97], by decide, rfl, by decide⟩
      · exact ⟨[98, 99], by decide, rfl, by decide⟩
      · exact ⟨[100, 36, 32, 101], by decide, rfl, by decide⟩
      · exact ⟨[102, 36, 36], by decide, rfl, by decide⟩
      · exact ⟨[58], by decide, rfl, by decide⟩
      · exact ⟨[124], by decide, rfl, by decide⟩
      · exact ⟨[124, 124], by decide, rfl, by decide⟩
      · exact ⟨[36, 103], by decide, rfl, by decide⟩
      · exact ⟨[104, 36, 58, 105], by decide, rfl, by decide⟩
    have hk0 : (0 : Int) ≤ (k : Int) := by omega
    have hr := ih (i + 1) (ws ++ [w]) (by omega) (by simp [hw]) (fun x hx => by
      rcases List.mem_append.1 hx with hx | hx
      · exact h x hx
      · rw [List.mem_singleton.1 hx]; exact hwn)
    have hwlen := (nine_facts w hwn).2.2.1
    have e1 : B w ++ (⟨#[32]⟩ : ByteArray) = B (w ++ [32]) := B_append _ [32]
    have e2 : B w ++ (⟨#[32, 32, 32, 32]⟩ : ByteArray) = B (w ++ [32, 32, 32, 32]) := B_append _ [32, 32, 32, 32]
    have e3 : B (wideT q ws ++ (w ++ [32, 32, 32, 32])) ++ (⟨#[36, 10, 32, 32]⟩ : ByteArray) = B (wideT q ws ++ (w ++ [32, 32, 32, 32]) ++ [36, 10, 32, 32]) := B_append _ [36, 10, 32, 32]
    have s1 : (B w).size + 1 ≤ 9223372036854775807 := by rw [size_B]; omega
    have s2 : (B (plainT ws)).size + (B (w ++ [32])).size ≤ 9223372036854775807 := by rw [size_B, size_B, List.length_append]; simp; omega
    have s3 : (B w).size + 4 ≤ 9223372036854775807 := by rw [size_B]; omega
    have s4 : (B (wideT q ws)).size + (B (w ++ [32, 32, 32, 32])).size ≤ 9223372036854775807 := by rw [size_B, size_B, List.length_append]; simp; omega
    have s6 : (B (wideT q ws ++ (w ++ [32, 32, 32, 32]))).size + 4 ≤ 9223372036854775807 := by rw [size_B, List.length_append, List.length_append]; simp; omega
    have p1 : plainT (ws ++ [w]) = plainT ws ++ (w ++ [32]) := by simp [plainT]
    have p3 : (ws ++ [w]).map B = ws.map B ++ [B w] := by simp
    rw [p1, p3] at hr
    simp only [bellowslaw09_LexBlanks.l0, if_pos h1, if_pos h2, hv, Option.bind_some, if_pos hk0, if_pos hk9, hp9, if_pos s5, if_pos s1, e1, e2, if_pos s2, if_pos s3, if_pos s4, B_append, hwr]
    by_cases h3 : Int.tmod (wrap64 a1) 3 = 0
    · obtain rfl : q = true := hq.1 h3
      have p2 : wideT true (ws ++ [w]) = wideT true ws ++ (w ++ [32, 32, 32, 32]) ++ [36, 10, 32, 32] := by simp [wideT, F]
      rw [p2] at hr
      simp only [if_pos h3, if_pos s6, e3]
      exact hr
    · obtain rfl : q = false := by cases q with | false => rfl | true => exact absurd (hq.2 rfl) h3
      have p2 : wideT false (ws ++ [w]) = wideT false ws ++ (w ++ [32, 32, 32, 32]) := by simp [wideT, V]
      rw [p2] at hr
      simp only [if_neg h3]
      exact hr
end LexBlanks
open LexBlanks in
theorem LexBlanks : bellowslaw09_LexBlanks.Pure := by
  intro l0 a1 _ _ hwf _
  refine Ev.rounds ?_
  by_cases h : (l0.length : Int) > 60
  · simp only [bellowslaw09_LexBlanks.f, if_pos h]; exact Ev.now _
  · simp only [bellowslaw09_LexBlanks.f, if_neg h]
    have e0 : wideT (decide (Int.tmod (wrap64 a1) 3 = 0)) [] = [32, 32, 32] := by cases (decide (Int.tmod (wrap64 a1) 3 = 0)) <;> rfl
    have hL := loop l0 a1 (decide (Int.tmod (wrap64 a1) 3 = 0)) (by simp) (by omega) (fun x hx => by have := hwf x hx; simp [Lit.wf] at this; exact ⟨this.1, this.2⟩) _ 0 [] (Nat.zero_add _) rfl (by simp)
    rw [e0] at hL
    exact hL
end Go.Proofs.YtahejhkphceajaaDoor.Pure
