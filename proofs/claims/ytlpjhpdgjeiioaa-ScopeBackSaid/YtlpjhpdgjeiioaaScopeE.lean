/- Plain laws of what scope.Expand computes, byte by byte. No program in sight. -/
import Derived.Test.YtlpjhpdgjeiioaaScopeD
set_option linter.unusedSimpArgs false
set_option linter.unusedVariables false
namespace Go.Proofs.Ytlpjhpdgjeiioaa.Sc
open Go.RowKit Go.Lib Go.Shelf Go.Proofs.YtlpjhpdgjeiioaaW.PrintWords Go.Proofs.Ytlpjhpdgjeiioaa.U Go.Proofs.Ytlpjhpdgjeiioaa.Idx

section
variable {L : List Lev}
theorem expGo_fuel : ∀ (n : Nat) (text : Txt), text.length ≤ n → ∀ f g out long, text.length < f → text.length < g → expGo L f text out long = expGo L g text out long := by
  intro n
  induction n with
  | zero =>
    intro text hn f g out long hf hg
    obtain rfl : text = [] := List.length_eq_zero_iff.1 (by omega)
    obtain ⟨f, rfl⟩ : ∃ x, f = x + 1 := ⟨f - 1, by omega⟩
    obtain ⟨g, rfl⟩ : ∃ x, g = x + 1 := ⟨g - 1, by omega⟩
    rw [expGo, expGo]; simp [cutL]
  | succ n ih =>
    intro text hn f g out long hf hg
    obtain ⟨f, rfl⟩ : ∃ x, f = x + 1 := ⟨f - 1, by omega⟩
    obtain ⟨g, rfl⟩ : ∃ x, g = x + 1 := ⟨g - 1, by omega⟩
    rw [expGo, expGo]
    cases hc : (cutL 36 text).2.2 with
    | false => rfl
    | true =>
      have h1 := cutL_some_len 36 text hc
      have h2 := dollarL_len L (cutL 36 text).2.1
      have hlt : (dollarL L (cutL 36 text).2.1).2.1.length ≤ n := by omega
      rw [ih _ hlt f g _ _ (by omega) (by omega), ih _ hlt f g _ _ (by omega) (by omega)]
def E (L : List Lev) (text out : Txt) (long : Bool) : Option (Txt × Bool) := expGo L (text.length + 1) text out long
theorem expandL_E (L : List Lev) (text : Txt) : expandL L text = finL (E L text [] false) := rfl
theorem E_nil (out : Txt) (long : Bool) : E L [] out long = some (out, long) := by
  rw [E, expGo]; simp [cutL]
theorem E_char {c : UInt8} (hc : c ≠ 36) (t out : Txt) (long : Bool) : E L (c :: t) out long = E L t (out ++ [c]) long := by
  have e : cutL 36 (c :: t) = (c :: (cutL 36 t).1, (cutL 36 t).2.1, (cutL 36 t).2.2) := by rw [cutL, if_neg hc]
  rw [E, List.length_cons, expGo_fuel (t.length + 1) (c :: t) (by simp) (t.length + 1 + 1) (t.length + 1 + 1 + 1) out long (by simp) (by simp)]
  rw [E, expGo_fuel t.length t (Nat.le_refl _) (t.length + 1) (t.length + 1 + 1 + 1) (out ++ [c]) long (by omega) (by omega)]
  have e2 : out ++ c :: (cutL 36 t).1 = out ++ [c] ++ (cutL 36 t).1 := by simp
  obtain ⟨⟨pl, rs, is⟩, h1⟩ : ∃ x, cutL 36 t = x := ⟨_, rfl⟩
  obtain ⟨⟨ow, lf, ok⟩, h2⟩ : ∃ x, dollarL L rs = x := ⟨_, rfl⟩
  rw [h1] at e e2
  rw [expGo_succ L _ (c :: t) out long e h2, expGo_succ L _ t (out ++ [c]) long h1 h2]
  simp only at e2
  rw [e2]
theorem E_dollar (t out : Txt) (long : Bool) {ow lf : Txt} {ok : Bool} (h : dollarL L t = (ow, lf, ok)) :
    E L (36 :: t) out long = if ok = false then none else if long = true ∨ 16384 < out.length + ow.length then E L lf out true else E L lf (out ++ ow) false := by
  have hl : lf.length ≤ t.length := by have := dollarL_len L t; rw [h] at this; exact this
  rw [E, expGo_succ L (36 :: t).length (36 :: t) out long (show cutL 36 (36 :: t) = ([], t, true) by rw [cutL, if_pos rfl]) h, if_neg (by simp), List.append_nil]
  rw [E, E, expGo_fuel t.length lf hl (36 :: t).length (lf.length + 1) _ _ (by simp; omega) (by omega), expGo_fuel t.length lf hl (36 :: t).length (lf.length + 1) _ _ (by simp; omega) (by omega)]
theorem cutL_app (c : UInt8) (r z : Txt) (h : (cutL c r).2.2 = true) : cutL c (r ++ z) = ((cutL c r).1, (cutL c r).2.1 ++ z, true) := by
  induction r with
  | nil => simp [cutL] at h
  | cons b r ih =>
    rw [List.cons_append, cutL, cutL]
    rw [cutL] at h
    split
    · rfl
    · rename_i hb
      rw [if_neg hb] at h
      rw [ih h]
theorem takeWhile_app (f : UInt8 → Bool) (l : Txt) (c : UInt8) (b : Txt) (hc : f c = false) : (l ++ c :: b).takeWhile f = l.takeWhile f ∧ (l ++ c :: b).dropWhile f = l.dropWhile f ++ c :: b := by
  induction l with
  | nil => simp [List.takeWhile_cons, List.dropWhile_cons, hc]
  | cons d l ih =>
    by_cases hd : f d = true
    · simp [List.takeWhile_cons, List.dropWhile_cons, hd, ih]
    · simp [List.takeWhile_cons, List.dropWhile_cons, hd]
theorem dollarL_app {t ow lf : Txt} (h : dollarL L t = (ow, lf, true)) (c : UInt8) (hc : shortB c = false) (b : Txt) : dollarL L (t ++ c :: b) = (ow, lf ++ c :: b, true) := by
  cases t with
  | nil => simp [dollarL] at h
  | cons d r =>
    rw [List.cons_append, dollarL]
    rw [dollarL] at h
    by_cases h1 : escR d.toNat = true
    · rw [if_pos h1] at h ⊢
      obtain ⟨rfl, rfl⟩ : [d] = ow ∧ r = lf := by simpa using h
      rfl
    · rw [if_neg h1] at h ⊢
      by_cases h2 : d = 123
      · rw [if_pos h2] at h ⊢
        have h3 : (cutL 125 r).2.2 = true := by
          have := congrArg (fun x => x.2.2) h
          simp only [Bool.and_eq_true] at this
          exact this.1
        rw [cutL_app 125 r _ h3]
        simp only at h ⊢
        rw [h3] at h
        have e1 : getL L (cutL 125 r).1 = ow := congrArg (fun x => x.1) h
        have e2 : (cutL 125 r).2.1 = lf := congrArg (fun x => x.2.1) h
        have e3 : (true && nameL (cutL 125 r).1) = true := congrArg (fun x => x.2.2) h
        rw [e1, e2, e3]
      · rw [if_neg h2] at h ⊢
        have := takeWhile_app shortB (d :: r) c b hc
        rw [List.cons_append] at this
        rw [this.1, this.2]
        have e1 : getL L ((d :: r).takeWhile shortB) = ow := congrArg (fun x => x.1) h
        have e2 : (d :: r).dropWhile shortB = lf := congrArg (fun x => x.2.1) h
        have e3 : decide ((d :: r).takeWhile shortB ≠ []) = true := congrArg (fun x => x.2.2) h
        rw [e1, e2, e3]
theorem dollarL_lt {t ow lf : Txt} (h : dollarL L t = (ow, lf, true)) : lf.length < t.length := by
  cases t with
  | nil => simp [dollarL] at h
  | cons d r =>
    rw [dollarL] at h
    by_cases h1 : escR d.toNat = true
    · rw [if_pos h1] at h
      have e2 : r = lf := congrArg (fun x => x.2.1) h
      rw [← e2]; simp
    · rw [if_neg h1] at h
      by_cases h2 : d = 123
      · rw [if_pos h2] at h
        have e2 : (cutL 125 r).2.1 = lf := congrArg (fun x => x.2.1) h
        have := (cutL_len 125 r).2
        rw [← e2]; simp; omega
      · rw [if_neg h2] at h
        have e2 : (d :: r).dropWhile shortB = lf := congrArg (fun x => x.2.1) h
        have e3 : decide ((d :: r).takeWhile shortB ≠ []) = true := congrArg (fun x => x.2.2) h
        rw [decide_eq_true_iff] at e3
        have e4 : ((d :: r).takeWhile shortB).length + ((d :: r).dropWhile shortB).length = (d :: r).length := by
          rw [← List.length_append, List.takeWhile_append_dropWhile]
        have e5 : 0 < ((d :: r).takeWhile shortB).length := List.length_pos_iff.2 e3
        rw [← e2]; omega
theorem dollarL_small (M : Nat) (hM : 1 ≤ M) (hT : ∀ k, (getL L k).length ≤ M) (t : Txt) : (dollarL L t).1.length ≤ M := by
  cases t with
  | nil => simp [dollarL]
  | cons c r =>
    rw [dollarL]
    split
    · simpa using hM
    · split
      · exact hT _
      · exact hT _

/-- a, expanded with nothing too long: to r, whatever stands ahead. -/
def R (L : List Lev) (a : Txt) (r : Option Txt) : Prop := (∀ out : Txt, out.length + 50 * a.length ≤ 16384 → E L a out false = r.map fun x => (out ++ x, false)) ∧ ∀ x, r = some x → x.length ≤ 50 * a.length
theorem R_ex (hT : ∀ k, (getL L k).length ≤ 100) : ∀ (n : Nat) (a : Txt), a.length ≤ n → ∃ r, R L a r := by
  intro n
  induction n with
  | zero =>
    intro a ha
    obtain rfl : a = [] := List.length_eq_zero_iff.1 (by omega)
    exact ⟨some [], fun out _ => by rw [E_nil]; simp, fun x hx => by cases hx; simp⟩
  | succ n ih =>
    intro a ha
    cases a with
    | nil => exact ⟨some [], fun out _ => by rw [E_nil]; simp, fun x hx => by cases hx; simp⟩
    | cons c t =>
      simp only [List.length_cons] at ha
      by_cases hc : c = 36
      · subst hc
        obtain ⟨⟨ow, lf, ok⟩, hd⟩ : ∃ d, dollarL L t = d := ⟨_, rfl⟩
        have hl : lf.length ≤ t.length := by have := dollarL_len L t; rw [hd] at this; exact this
        have ho : ow.length ≤ 100 := by have := dollarL_small 100 (by decide) hT t; rw [hd] at this; exact this
        cases ok with
        | false => exact ⟨none, fun out _ => by rw [E_dollar t out false hd, if_pos rfl]; rfl, fun x hx => by cases hx⟩
        | true =>
          have hl2 := dollarL_lt hd
          obtain ⟨r, h1, h2⟩ := ih lf (by omega)
          refine ⟨r.map (ow ++ ·), fun out hout => ?_, fun x hx => ?_⟩
          · simp only [List.length_cons] at hout
            rw [E_dollar t out false hd, if_neg (by simp), if_neg (by simp; omega), h1 _ (by simp; omega)]
            cases r <;> simp
          · cases r with
            | none => cases hx
            | some y =>
              obtain rfl : ow ++ y = x := by simpa using hx
              have := h2 y rfl
              simp; omega
      · obtain ⟨r, h1, h2⟩ := ih t (by omega)
        refine ⟨r.map (c :: ·), fun out hout => ?_, fun x hx => ?_⟩
        · simp only [List.length_cons] at hout
          rw [E_char hc, h1 _ (by simp; omega)]
          cases r <;> simp
        · cases r with
          | none => cases hx
          | some y =>
            obtain rfl : c :: y = x := by simpa using hx
            have := h2 y rfl
            simp; omega
theorem R_join (hT : ∀ k, (getL L k).length ≤ 100) {b : Txt} {rb : Option Txt} (hb : R L b rb) : ∀ (n : Nat) (a x : Txt), a.length ≤ n → R L a (some x) → 
    ∀ out : Txt, out.length + 50 * (a.length + 1 + b.length) ≤ 16384 → E L (a ++ 32 :: b) out false = rb.map fun y => (out ++ x ++ 32 :: y, false) := by
  have base : ∀ (x : Txt), R L [] (some x) → ∀ out : Txt, out.length + 50 * (([] : Txt).length + 1 + b.length) ≤ 16384 → E L ([] ++ 32 :: b) out false = rb.map fun y => (out ++ x ++ 32 :: y, false) := by
    intro x hx out hout
    have h := hx.1 [] (by simp)
    rw [E_nil] at h
    obtain rfl : x = [] := by simpa using h.symm
    simp only [List.length_nil] at hout
    rw [List.nil_append, E_char (by decide), hb.1 _ (by simp; omega)]
    cases rb <;> simp
  intro n
  induction n with
  | zero =>
    intro a x ha hx out hout
    obtain rfl : a = [] := List.length_eq_zero_iff.1 (by omega)
    exact base x hx out hout
  | succ n ih =>
    intro a x ha hx out hout
    cases a with
    | nil => exact base x hx out hout
    | cons c t =>
      simp only [List.length_cons] at ha hout
      have h0 := hx.1 [] (by simp; omega)
      by_cases hc : c = 36
      · subst hc
        obtain ⟨⟨ow, lf, ok⟩, hd⟩ : ∃ d, dollarL L t = d := ⟨_, rfl⟩
        have hl : lf.length ≤ t.length := by have := dollarL_len L t; rw [hd] at this; exact this
        have ho : ow.length ≤ 100 := by have := dollarL_small 100 (by decide) hT t; rw [hd] at this; exact this
        cases ok with
        | false => rw [E_dollar t _ false hd, if_pos rfl] at h0; cases h0
        | true =>
          have hl2 := dollarL_lt hd
          obtain ⟨r, hr⟩ := R_ex hT _ lf (Nat.le_refl _)
          rw [E_dollar t [] false hd, if_neg (by simp), if_neg (by simp; omega), hr.1 _ (by simp; omega)] at h0
          cases r with
          | none => cases h0
          | some x' =>
            obtain rfl : ow ++ x' = x := by simpa using h0
            rw [List.cons_append, E_dollar _ out false (dollarL_app hd 32 (by decide) b), if_neg (by simp), if_neg (by simp; omega), ih lf x' (by omega) hr _ (by simp; omega)]
            simp
      · obtain ⟨r, hr⟩ := R_ex hT _ t (Nat.le_refl _)
        rw [E_char hc, hr.1 _ (by simp; omega)] at h0
        cases r with
        | none => cases h0
        | some x' =>
          obtain rfl : c :: x' = x := by simpa using h0
          rw [List.cons_append, E_char hc, ih t x' (by omega) hr _ (by simp; omega)]
          simp
/-- What the law of parts asks. -/
theorem parts_law (hT : ∀ k, (getL L k).length ≤ 100) (a b : Txt) (ha : a.length ≤ 100) (hb : b.length ≤ 100) :
    expandL L a = ([], 10) ∨ (∃ x, x.length ≤ 5000 ∧ expandL L a = (x, 0) ∧ ((expandL L b = ([], 10) ∧ expandL L (a ++ 32 :: b) = ([], 10)) ∨ ∃ y, y.length ≤ 5000 ∧ expandL L b = (y, 0) ∧ expandL L (a ++ 32 :: b) = (x ++ 32 :: y, 0))) := by
  obtain ⟨ra, hra⟩ := R_ex hT _ a (Nat.le_refl _)
  obtain ⟨rb, hrb⟩ := R_ex hT _ b (Nat.le_refl _)
  have ea := hra.1 [] (by simp; omega)
  have eb := hrb.1 [] (by simp; omega)
  cases ra with
  | none => exact .inl (by rw [expandL_E, ea]; rfl)
  | some x =>
    have hx := hra.2 x rfl
    have hj := R_join hT hrb _ a x (Nat.le_refl _) hra [] (by simp; omega)
    refine .inr ⟨x, by omega, ?_, ?_⟩
    · rw [expandL_E, ea]
      show finL (some (x, false)) = _
      rw [finL, if_neg (by simp; omega)]
    · cases rb with
      | none => exact .inl ⟨by rw [expandL_E, eb]; rfl, by rw [expandL_E, hj]; rfl⟩
      | some y =>
        have hy := hrb.2 y rfl
        refine .inr ⟨y, by omega, ?_, ?_⟩
        · rw [expandL_E, eb]
          show finL (some (y, false)) = _
          rw [finL, if_neg (by simp; omega)]
        · rw [expandL_E, hj]
          show finL (some ([] ++ x ++ 32 :: y, false)) = _
          rw [finL, if_neg (by simp; omega)]
          rfl
end
end Go.Proofs.Ytlpjhpdgjeiioaa.Sc
