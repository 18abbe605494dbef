/- strings.FieldsFunc at blanks: the pieces of a text of whatever bytes. -/
import Derived.Test.YtaocdnebglnkeaaDoorU
import Derived.Lib.FieldsP
set_option linter.unusedSimpArgs false
set_option linter.unusedVariables false
namespace Go.Proofs.YtaocdnebglnkeaaDoor.Fld
open Go.RowKit Go.Lib Go.Proofs.YtaocdnebglnkeaaDoor.U
abbrev Txt := List UInt8
def isBl (c : Nat) : Bool := c == 32
def flushF (w : Txt) : List Txt := if w = [] then [] else [w]
def fieldsGo : Txt → Txt → List Txt
  | w, [] => flushF w
  | w, b :: r => if b = 32 then flushF w ++ fieldsGo [] r else fieldsGo (w ++ [b]) r
def fieldsT (l : Txt) : List Txt := fieldsGo [] l
theorem fieldsGo_none (u : Txt) (h : (32 : UInt8) ∉ u) : ∀ (w r : Txt), fieldsGo w (u ++ r) = fieldsGo (w ++ u) r := by
  induction u with
  | nil => intro w r; simp
  | cons b u ih =>
    intro w r
    have hb : b ≠ 32 := fun e => h (by simp [e])
    rw [List.cons_append, fieldsGo, if_neg hb, ih (fun e => h (by simp [e]))]
    simp
theorem fieldsGo_len (r : Txt) : ∀ w, (fieldsGo w r).length ≤ r.length + 1 := by
  induction r with
  | nil => intro w; unfold fieldsGo flushF; split <;> simp
  | cons b r ih =>
    intro w
    rw [fieldsGo]
    split
    · have h1 : (flushF w).length ≤ 1 := by unfold flushF; split <;> simp
      have := ih []
      rw [List.length_append, List.length_cons]; omega
    · have := ih (w ++ [b])
      rw [List.length_cons]; omega
theorem dec_size (s : ByteArray) (pos : Nat) (h : pos < s.size) : 1 ≤ (Utf8.decode s pos).2 ∧ pos + (Utf8.decode s pos).2 ≤ s.size ∧
    (∀ j, 1 ≤ j → j < (Utf8.decode s pos).2 → 128 ≤ (s.get! (pos + j)).toNat) := by
  unfold Utf8.decode
  simp only [Nat.add_zero]
  obtain ⟨g0, h0⟩ : ∃ x, (s.get! pos).toNat = x := ⟨_, rfl⟩
  obtain ⟨g1, h1⟩ : ∃ x, (s.get! (pos + 1)).toNat = x := ⟨_, rfl⟩
  obtain ⟨g2, h2⟩ : ∃ x, (s.get! (pos + 2)).toNat = x := ⟨_, rfl⟩
  obtain ⟨g3, h3⟩ : ∃ x, (s.get! (pos + 3)).toNat = x := ⟨_, rfl⟩
  simp only [h0, h1, h2, h3]
  split
  · exact ⟨Nat.le_refl _, by omega, fun j j1 j2 => by omega⟩
  · split
    · rename_i hc
      simp only [Bool.and_eq_true, decide_eq_true_eq, beq_iff_eq] at hc
      split
      · refine ⟨by show 1 ≤ 2; omega, by show pos + 2 ≤ _; omega, fun j j1 j2 => ?_⟩
        obtain rfl : j = 1 := by simp at j2; omega
        rw [h1]; omega
      · exact ⟨Nat.le_refl _, by show pos + 1 ≤ _; omega, fun j j1 j2 => by simp at j2; omega⟩
    · split
      · rename_i hc
        simp only [Bool.and_eq_true, decide_eq_true_eq, beq_iff_eq] at hc
        split
        · refine ⟨by show 1 ≤ 3; omega, by show pos + 3 ≤ _; omega, fun j j1 j2 => ?_⟩
          have : j = 1 ∨ j = 2 := by simp at j2; omega
          rcases this with rfl | rfl
          · rw [h1]; omega
          · rw [h2]; omega
        · exact ⟨Nat.le_refl _, by show pos + 1 ≤ _; omega, fun j j1 j2 => by simp at j2; omega⟩
      · split
        · rename_i hc
          simp only [Bool.and_eq_true, decide_eq_true_eq, beq_iff_eq] at hc
          split
          · refine ⟨by show 1 ≤ 4; omega, by show pos + 4 ≤ _; omega, fun j j1 j2 => ?_⟩
            have : j = 1 ∨ j = 2 ∨ j = 3 := by simp at j2; omega
            rcases this with rfl | rfl | rfl
            · rw [h1]; omega
            · rw [h2]; omega
            · rw [h3]; omega
          · exact ⟨Nat.le_refl _, by show pos + 1 ≤ _; omega, fun j j1 j2 => by simp at j2; omega⟩
        · exact ⟨Nat.le_refl _, by show pos + 1 ≤ _; omega, fun j j1 j2 => by simp at j2; omega⟩
theorem dec_blank (s : ByteArray) (pos : Nat) (h : pos < s.size) : isBl (Utf8.decode s pos).1 = true ↔ (s.get! pos).toNat = 32 := by
  have hlt := (s.get! pos).toNat_lt
  unfold Utf8.decode
  simp only [Nat.add_zero]
  obtain ⟨g0, h0⟩ : ∃ x, (s.get! pos).toNat = x := ⟨_, rfl⟩
  obtain ⟨g1, h1⟩ : ∃ x, (s.get! (pos + 1)).toNat = x := ⟨_, rfl⟩
  obtain ⟨g2, h2⟩ : ∃ x, (s.get! (pos + 2)).toNat = x := ⟨_, rfl⟩
  obtain ⟨g3, h3⟩ : ∃ x, (s.get! (pos + 3)).toNat = x := ⟨_, rfl⟩
  simp only [h0, h1, h2, h3]
  rw [h0] at hlt
  split
  · simp [isBl]
  · have hne : ¬ g0 = 32 := by omega
    have fin : ∀ c : Nat, 128 ≤ c → (isBl c = true ↔ g0 = 32) := fun c hc => by
      constructor
      · intro h; simp [isBl] at h; omega
      · intro h; exact absurd h hne
    have fe := fin Utf8.runeError (by decide)
    split
    · split
      · rename_i hh; exact fin _ hh
      · exact fe
    · split
      · split
        · rename_i h2; simp only [Bool.and_eq_true, decide_eq_true_eq] at h2; exact fin _ (by omega)
        · exact fe
      · split
        · split
          · rename_i h2; simp only [Bool.and_eq_true, decide_eq_true_eq] at h2; exact fin _ (by omega)
          · exact fe
        · exact fe
theorem get_B (T : Txt) (i : Nat) (h : i < T.length) : (B T).get! i = T[i] := by
  show (T.toArray)[i]! = _
  rw [getElem!_pos T.toArray i (by simpa using h)]
  simp
theorem spans (T : Txt) (f : Nat) : ∀ (r w a : Txt) (acc : List (Nat × Nat)), T = a ++ (w ++ r) → r.length ≤ f →
    (closeSpans (B T) (spansFromP isBl (B T) f (a.length + w.length) (if w = [] then none else some a.length) acc)).map (fun x => (B T).extract x.1 x.2) = acc.map (fun x => (B T).extract x.1 x.2) ++ (fieldsGo w r).map B := by
  have fin : ∀ (w a : Txt) (acc : List (Nat × Nat)), T = a ++ w → (closeSpans (B T) (acc, if w = [] then none else some a.length)).map (fun x => (B T).extract x.1 x.2) = acc.map (fun x => (B T).extract x.1 x.2) ++ (flushF w).map B := by
    intro w a acc hT
    by_cases hw : w = []
    · simp [hw, closeSpans, flushF]
    · rw [if_neg hw, flushF, if_neg hw]
      have e : (B T).extract a.length (B T).size = B w := by
        rw [extract_B, size_B, List.take_length, hT, List.drop_left]
      simp [closeSpans, e]
  induction f with
  | zero =>
    intro r w a acc hT hr
    obtain rfl : r = [] := List.length_eq_zero_iff.1 (by omega)
    rw [spansFromP, fieldsGo]
    exact fin w a acc (by simpa using hT)
  | succ f ih =>
    intro r w a acc hT hr
    cases r with
    | nil =>
      rw [spansFromP_end _ _ _ _ _ _ (by rw [size_B, hT]; simp), fieldsGo]
      exact fin w a acc (by simpa using hT)
    | cons b r =>
      have hp : a.length + w.length < (B T).size := by rw [size_B, hT]; simp
      have hpl : a.length + w.length < T.length := by rw [← size_B]; exact hp
      have hb : (B T).get! (a.length + w.length) = b := by
        rw [get_B T _ hpl]
        simp [hT]
      have hbl := dec_blank (B T) _ hp
      rw [hb] at hbl
      obtain ⟨z1, z2, z3⟩ := dec_size (B T) _ hp
      by_cases h32 : b = 32
      · subst h32
        have hbl' : isBl (Utf8.decode (B T) (a.length + w.length)).1 = true := hbl.2 (by decide)
        have hsz : (Utf8.decode (B T) (a.length + w.length)).2 = 1 := by
          have : ((B T).get! (a.length + w.length)).toNat < 128 := by rw [hb]; decide
          unfold Utf8.decode
          simp only [Nat.add_zero]
          rw [if_pos this]
        rw [fieldsGo, if_pos rfl]
        have hT' : T = (a ++ w ++ [32]) ++ ([] ++ r) := by rw [hT]; simp
        have hl : (a ++ w ++ [32]).length + ([] : Txt).length = a.length + w.length + 1 := by simp; omega
        by_cases hw : w = []
        · have := ih r [] (a ++ w ++ [32]) acc hT' (by simpa using hr)
          rw [hl, if_pos rfl] at this
          rw [if_pos hw, spansFromP, if_pos hp, hbl', if_pos rfl, hsz]
          rw [this]
          simp [hw, flushF]
        · have := ih r [] (a ++ w ++ [32]) (acc ++ [(a.length, a.length + w.length)]) hT' (by simpa using hr)
          rw [hl, if_pos rfl] at this
          rw [if_neg hw, spansFromP, if_pos hp, hbl', if_pos rfl, hsz]
          rw [this]
          have e : (B T).extract a.length (a.length + w.length) = B w := by
            rw [extract_B, hT, ← List.append_assoc, List.take_left' (by simp), List.drop_left]
          simp [flushF, hw, e]
      · have hbl' : isBl (Utf8.decode (B T) (a.length + w.length)).1 = false := by
          cases hq : isBl (Utf8.decode (B T) (a.length + w.length)).1 with
          | false => rfl
          | true => exact absurd (UInt8.toNat_inj.1 (show b.toNat = (32 : UInt8).toNat from hbl.1 hq)) h32
        obtain ⟨k, hk⟩ : ∃ k, (Utf8.decode (B T) (a.length + w.length)).2 = k := ⟨_, rfl⟩
        rw [hk] at z1 z2 z3
        have hTl : T.length = a.length + w.length + (r.length + 1) := by rw [hT]; simp; omega
        rw [size_B] at z2
        obtain ⟨u, v, huv, hul⟩ : ∃ u v, b :: r = u ++ v ∧ u.length = k := ⟨(b :: r).take k, (b :: r).drop k, (List.take_append_drop _ _).symm, by rw [List.length_take, List.length_cons]; omega⟩
        have hu32 : (32 : UInt8) ∉ u := by
          intro hm
          obtain ⟨j, hj, he⟩ := List.getElem_of_mem hm
          rcases Nat.eq_zero_or_pos j with h0 | h0
          · subst h0
            have e1 := congrArg (fun z => z[0]?) huv
            simp [List.getElem?_append, hj, he] at e1
            exact h32 e1
          · have := z3 j h0 (by omega)
            rw [get_B T _ (by omega)] at this
            have e1 : T[a.length + w.length + j]'(by omega) = 32 := by
              have : T = (a ++ w) ++ (u ++ v) := by rw [hT, huv]; simp
              simp only [this]
              rw [List.getElem_append_right (by simp)]
              simp only [List.length_append]
              rw [List.getElem_append_left (by omega)]
              have : a.length + w.length + j - (a.length + w.length) = j := by omega
              simp only [this]
              exact he
            rw [e1] at this
            exact absurd this (by decide)
        have hune : u ≠ [] := by intro e; rw [e] at hul; simp at hul; omega
        have hT' : T = a ++ ((w ++ u) ++ v) := by rw [hT, huv]; simp
        have hvl : v.length ≤ f := by
          have := congrArg List.length huv
          simp only [List.length_cons, List.length_append] at this hr
          omega
        have := ih v (w ++ u) a acc hT' hvl
        rw [if_neg (by simp [hune]), List.length_append, hul, ← Nat.add_assoc] at this
        rw [huv, fieldsGo_none u hu32]
        by_cases hw : w = []
        · rw [if_pos hw, spansFromP, if_pos hp, hbl', if_neg Bool.false_ne_true, hk]
          rw [← this]
          simp [hw]
        · rw [if_neg hw, spansFromP, if_pos hp, hbl', if_neg Bool.false_ne_true, hk]
          exact this
theorem fields_B (l : Txt) : goFieldsP isBl (B l) = (fieldsT l).map B := by
  have := spans l l.length l [] [] [] (by simp) (Nat.le_refl _)
  simp only [List.length_nil, Nat.add_zero, if_true, List.map_nil, List.nil_append] at this
  unfold goFieldsP spansOfP
  rw [size_B]
  exact this
end Go.Proofs.YtaocdnebglnkeaaDoor.Fld
