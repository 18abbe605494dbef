/- Plain laws of what path.Clean computes (cleanL). No program in sight. -/
import Derived.Test.YtaocdnebglnkeaaDoorClean
set_option linter.unusedSimpArgs false
set_option linter.unusedVariables false
namespace Go.Proofs.YtaocdnebglnkeaaDoor.PTh
open Go.RowKit Go.Proofs.YtaocdnebglnkeaaDoorW.PrintWords Go.Proofs.YtaocdnebglnkeaaDoor.U Go.Proofs.YtaocdnebglnkeaaDoor.P Go.Proofs.YtaocdnebglnkeaaDoor.Rng

abbrev sp (l : List UInt8) : List (List UInt8) := splitK 47 0 l
def Good (p : List UInt8) : Prop := p ≠ [] ∧ p ≠ [46] ∧ p ≠ [46, 46] ∧ (47 : UInt8) ∉ p

theorem sp_none (l : List UInt8) (h : (47 : UInt8) ∉ l) : sp l = [l] := splitK_none 47 0 l h
theorem sp_at (a l : List UInt8) (h : (47 : UInt8) ∉ a) : sp (a ++ 47 :: l) = a :: sp l := by
  have := splitK_at 47 0 a l h
  simpa using this
theorem sp_ne (l : List UInt8) : sp l ≠ [] := splitK_ne 47 0 l
theorem sp_cons {b : UInt8} {l q : List UInt8} {qs : List (List UInt8)} (hb : b ≠ 47) (h : sp l = q :: qs) : sp (b :: l) = (b :: q) :: qs := by
  show splitK 47 0 (b :: l) = _
  rw [splitK, if_neg hb, show splitK 47 0 l = q :: qs from h]
theorem sp_append (x y : List UInt8) : sp (x ++ 47 :: y) = sp x ++ sp y := by
  induction x with
  | nil => exact sp_at [] y (by simp)
  | cons b x ih =>
    by_cases hb : b = 47
    · subst hb
      have e1 : sp (47 :: (x ++ 47 :: y)) = [] :: sp (x ++ 47 :: y) := sp_at [] _ (by simp)
      have e2 : sp (47 :: x) = [] :: sp x := sp_at [] _ (by simp)
      rw [List.cons_append, e1, e2, ih]; rfl
    · cases h : sp x with
      | nil => exact absurd h (sp_ne x)
      | cons p ps =>
        rw [h] at ih
        rw [List.cons_append, sp_cons hb h, sp_cons hb ih]; rfl
theorem sp_parts (l : List UInt8) : ∀ p ∈ sp l, (47 : UInt8) ∉ p := by
  induction l with
  | nil => intro p hp; simp [splitK] at hp; subst hp; simp
  | cons b l ih =>
    by_cases hb : b = 47
    · subst hb
      have e2 : sp (47 :: l) = [] :: sp l := sp_at [] _ (by simp)
      rw [e2]; intro p hp
      rcases List.mem_cons.1 hp with rfl | hp
      · simp
      · exact ih p hp
    · cases h : sp l with
      | nil => exact absurd h (sp_ne l)
      | cons q qs =>
        rw [h] at ih
        rw [sp_cons hb h]
        intro p hp
        rcases List.mem_cons.1 hp with rfl | hp
        · have := ih q (by simp)
          simp [this, Ne.symm hb]
        · exact ih p (by simp [hp])
theorem sp_sub (f : UInt8 → Bool) (l : List UInt8) (hl : l.all f = true) : ∀ p ∈ sp l, p.all f = true := by
  induction l with
  | nil => intro p hp; simp [splitK] at hp; subst hp; rfl
  | cons b l ih =>
    simp only [List.all_cons, Bool.and_eq_true] at hl
    by_cases hb : b = 47
    · subst hb
      have e2 : sp (47 :: l) = [] :: sp l := sp_at [] _ (by simp)
      rw [e2]; intro p hp
      rcases List.mem_cons.1 hp with rfl | hp
      · rfl
      · exact ih hl.2 p hp
    · have ih := ih hl.2
      cases h : sp l with
      | nil => exact absurd h (sp_ne l)
      | cons q qs =>
        rw [h] at ih
        rw [sp_cons hb h]
        intro p hp
        rcases List.mem_cons.1 hp with rfl | hp
        · simp only [List.all_cons, Bool.and_eq_true]; exact ⟨hl.1, ih q (by simp)⟩
        · exact ih p (by simp [hp])

theorem joinP_nil : joinP [] = [] := rfl
theorem joinP_one (p : List UInt8) : joinP [p] = p := by simp [joinP, List.intercalate, List.intersperse]
theorem joinP_cons (p q : List UInt8) (ps : List (List UInt8)) : joinP (p :: q :: ps) = p ++ 47 :: joinP (q :: ps) := by
  simp [joinP, List.intercalate, List.intersperse]
theorem joinP_snoc (ps : List (List UInt8)) (h : ps ≠ []) (p : List UInt8) : joinP (ps ++ [p]) = joinP ps ++ 47 :: p := by
  induction ps with
  | nil => exact absurd rfl h
  | cons q ps ih =>
    cases ps with
    | nil => rw [joinP_one]; exact (joinP_cons q p []).trans (by rw [joinP_one])
    | cons r ps =>
      rw [List.cons_append, List.cons_append, joinP_cons, joinP_cons, ← List.cons_append, ih (by simp)]; simp
theorem joinP_append (ps qs : List (List UInt8)) (h : ps ≠ []) (h' : qs ≠ []) : joinP (ps ++ qs) = joinP ps ++ 47 :: joinP qs := by
  induction ps with
  | nil => exact absurd rfl h
  | cons q ps ih =>
    cases ps with
    | nil =>
      cases qs with
      | nil => exact absurd rfl h'
      | cons r qs => rw [joinP_one]; exact joinP_cons q r qs
    | cons r ps =>
      rw [List.cons_append, List.cons_append, joinP_cons, joinP_cons, ← List.cons_append, ih (by simp)]; simp
theorem sp_joinP (ps : List (List UInt8)) (h : ps ≠ []) (hp : ∀ p ∈ ps, (47 : UInt8) ∉ p) : sp (joinP ps) = ps := by
  induction ps with
  | nil => exact absurd rfl h
  | cons q ps ih =>
    cases ps with
    | nil => rw [joinP_one]; exact sp_none q (hp q (by simp))
    | cons r ps => rw [joinP_cons, sp_at _ _ (hp q (by simp)), ih (by simp) (fun p h => hp p (by simp [h]))]
theorem joinP_sp (l : List UInt8) : joinP (sp l) = l := by
  induction l with
  | nil => rfl
  | cons b l ih =>
    by_cases hb : b = 47
    · subst hb
      have e2 : sp (47 :: l) = [] :: sp l := sp_at [] _ (by simp)
      rw [e2]
      cases h : sp l with
      | nil => exact absurd h (sp_ne l)
      | cons q qs => rw [joinP_cons, ← h, ih]; rfl
    · cases h : sp l with
      | nil => exact absurd h (sp_ne l)
      | cons q qs =>
        rw [h] at ih
        rw [sp_cons hb h]
        cases qs with
        | nil => rw [joinP_one] at ih ⊢; rw [ih]
        | cons r qs => rw [joinP_cons] at ih ⊢; rw [List.cons_append, ih]

theorem foldP_append (a b s : List (List UInt8)) : foldP (a ++ b) s = (foldP a s).bind (foldP b) := by
  induction a generalizing s with
  | nil => rfl
  | cons p a ih =>
    rw [List.cons_append]
    simp only [foldP]
    by_cases h1 : p = [] ∨ p = [46]
    · rw [if_pos h1, if_pos h1]; exact ih s
    · rw [if_neg h1, if_neg h1]
      by_cases h2 : p = [46, 46]
      · rw [if_pos h2, if_pos h2]
        by_cases h3 : s = []
        · rw [if_pos h3, if_pos h3]; rfl
        · rw [if_neg h3, if_neg h3]; exact ih _
      · rw [if_neg h2, if_neg h2]; exact ih _
theorem foldP_good (qs s : List (List UInt8)) (h : ∀ p ∈ qs, Good p) : foldP qs s = some (s ++ qs) := by
  induction qs generalizing s with
  | nil => simp [foldP]
  | cons p qs ih =>
    obtain ⟨g1, g2, g3, _⟩ := h p (by simp)
    rw [foldP, if_neg (by simp [g1, g2]), if_neg g3, ih _ (fun q hq => h q (by simp [hq]))]
    simp
theorem foldP_keeps (Q : List UInt8 → Prop) (qs s r : List (List UInt8)) (h : foldP qs s = some r) (hq : ∀ p ∈ qs, p ≠ [] → p ≠ [46] → p ≠ [46, 46] → Q p) (hs : ∀ p ∈ s, Q p) : ∀ p ∈ r, Q p := by
  induction qs generalizing s with
  | nil => simp [foldP] at h; subst h; exact hs
  | cons p qs ih =>
    have hq' : ∀ p ∈ qs, p ≠ [] → p ≠ [46] → p ≠ [46, 46] → Q p := fun q hm => hq q (by simp [hm])
    rw [foldP] at h
    by_cases h1 : p = [] ∨ p = [46]
    · rw [if_pos h1] at h; exact ih s h hq' hs
    · rw [if_neg h1] at h
      by_cases h2 : p = [46, 46]
      · rw [if_pos h2] at h
        by_cases h3 : s = []
        · rw [if_pos h3] at h; cases h
        · rw [if_neg h3] at h
          exact ih _ h hq' (fun q hm => hs q (List.dropLast_subset s hm))
      · rw [if_neg h2] at h
        refine ih _ h hq' (fun q hm => ?_)
        rcases List.mem_append.1 hm with hm | hm
        · exact hs q hm
        · obtain rfl := List.mem_singleton.1 hm
          exact hq q (by simp) (fun e => h1 (.inl e)) (fun e => h1 (.inr e)) h2

theorem plain47 : plainB 47 = true := by decide +kernel
theorem plain46 : plainB 46 = true := by decide +kernel
theorem joinP_all (f : UInt8 → Bool) (h47 : f 47 = true) (ps : List (List UInt8)) (h : ∀ p ∈ ps, p.all f = true) : (joinP ps).all f = true := by
  induction ps with
  | nil => rfl
  | cons q ps ih =>
    cases ps with
    | nil => rw [joinP_one]; exact h q (by simp)
    | cons r ps =>
      rw [joinP_cons, List.all_append, List.all_cons, h q (by simp), h47, ih (fun p hp => h p (by simp [hp]))]; rfl

/-- A way in its clean form. -/
structure IsClean (c : List UInt8) (ps : List (List UInt8)) : Prop where
  ne : ps ≠ []
  good : ∀ p ∈ ps, Good p
  plain : ∀ p ∈ ps, p.all plainB = true
  eq : c = joinP ps
  len : c.length ≤ 100

theorem joinP_ne {ps : List (List UInt8)} (h : ps ≠ []) (hg : ∀ p ∈ ps, Good p) : joinP ps ≠ [] := by
  cases ps with
  | nil => exact absurd rfl h
  | cons q ps =>
    have := (hg q (by simp)).1
    cases ps with
    | nil => rw [joinP_one]; exact this
    | cons r ps => rw [joinP_cons]; simp
theorem joinP_head {ps : List (List UInt8)} (hg : ∀ p ∈ ps, Good p) : (joinP ps).head? ≠ some 47 := by
  cases ps with
  | nil => simp [joinP_nil]
  | cons q ps =>
    obtain ⟨h1, _, _, h4⟩ := hg q (by simp)
    have h5 : ∃ b t, q = b :: t := by cases q with | nil => exact absurd rfl h1 | cons b t => exact ⟨b, t, rfl⟩
    obtain ⟨b, t, rfl⟩ := h5
    have hb : b ≠ 47 := fun e => h4 (by simp [e])
    cases ps with
    | nil => rw [joinP_one]; simpa using hb
    | cons r ps => rw [joinP_cons]; simpa using hb

theorem cleanL_of {x : List UInt8} {ps : List (List UInt8)} (hx : x.length ≤ 1000) (hh : x.head? ≠ some 47) (hp : x.all plainB = true) (hf : foldP (sp x) [] = some ps) :
    cleanL x = if joinP ps = [] then ([], 5) else if 100 < (joinP ps).length then ([], 3) else (joinP ps, 0) := by
  rw [cleanL, if_neg (by omega), if_neg (by simp [hh, hp])]
  rw [show splitK 47 0 x = sp x from rfl, hf]
theorem cleanL_none {x : List UInt8} (hx : x.length ≤ 1000) (hf : foldP (sp x) [] = none) : cleanL x = ([], 5) := by
  rw [cleanL, if_neg (by omega)]
  split
  · rfl
  · rw [show splitK 47 0 x = sp x from rfl, hf]
theorem clean_is {l c : List UInt8} (h : cleanL l = (c, 0)) : ∃ ps, IsClean c ps := by
  rw [cleanL] at h
  split at h
  · cases h
  · split at h
    · cases h
    · rename_i h1 h2
      have h2' : l.all plainB = true := by
        cases h3 : l.all plainB with
        | true => rfl
        | false => exact absurd (.inr h3) h2
      cases hf : foldP (splitK 47 0 l) [] with
      | none => rw [hf] at h; cases h
      | some ps =>
        rw [hf] at h
        simp only at h
        split at h
        · cases h
        · split at h
          · cases h
          · rename_i h3 h4
            have hc : joinP ps = c := congrArg Prod.fst h
            refine ⟨ps, ?_, ?_, ?_, hc.symm, by rw [← hc]; omega⟩
            · rintro rfl; exact h3 rfl
            · exact foldP_keeps Good _ _ _ hf (fun p hp a b d => ⟨a, b, d, sp_parts l p hp⟩) (by simp)
            · exact foldP_keeps (fun p => p.all plainB = true) _ _ _ hf (fun p hp _ _ _ => sp_sub plainB l h2' p hp) (by simp)
theorem clean_err {l c : List UInt8} {e : Int} (h : cleanL l = (c, e)) (he : e ≠ 0) : c = [] := by
  rw [cleanL] at h
  split at h
  · exact (congrArg Prod.fst h).symm
  · split at h
    · exact (congrArg Prod.fst h).symm
    · cases hf : foldP (splitK 47 0 l) [] with
      | none => rw [hf] at h; exact (congrArg Prod.fst h).symm
      | some ps =>
        rw [hf] at h
        simp only at h
        split at h
        · exact (congrArg Prod.fst h).symm
        · split at h
          · exact (congrArg Prod.fst h).symm
          · exact absurd (congrArg Prod.snd h).symm he
namespace IsClean
variable {c : List UInt8} {ps : List (List UInt8)} (h : IsClean c ps)
include h
theorem parts : sp c = ps := by rw [h.eq]; exact sp_joinP ps h.ne fun p hp => (h.good p hp).2.2.2
theorem cne : c ≠ [] := by rw [h.eq]; exact joinP_ne h.ne h.good
theorem head : c.head? ≠ some 47 := by rw [h.eq]; exact joinP_head h.good
theorem allp : c.all plainB = true := by rw [h.eq]; exact joinP_all plainB plain47 ps h.plain
theorem again : cleanL c = (c, 0) := by
  have hl := h.len
  rw [cleanL_of (by omega) h.head h.allp (by rw [h.parts]; exact foldP_good ps [] h.good)]
  rw [List.nil_append, ← h.eq, if_neg h.cne, if_neg (by omega)]
end IsClean
/-- The last sign 47 of a text. -/
theorem last_cases (l : List UInt8) : (47 : UInt8) ∉ l ∨ ∃ d b, l = d ++ 47 :: b ∧ (47 : UInt8) ∉ b := by
  induction l with
  | nil => exact .inl (by simp)
  | cons x l ih =>
    rcases ih with h | ⟨d, b, rfl, hb⟩
    · by_cases hx : x = 47
      · exact .inr ⟨[], l, by simp [hx], h⟩
      · exact .inl (by simp [h, Ne.symm hx])
    · exact .inr ⟨x :: d, b, by simp, hb⟩
end Go.Proofs.YtaocdnebglnkeaaDoor.PTh
