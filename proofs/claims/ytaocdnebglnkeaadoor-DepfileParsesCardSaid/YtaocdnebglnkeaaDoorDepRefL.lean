/- What the document's Parse (layer 14) computes, and that depfile.Parse answers the same. No program in sight. -/
import Derived.Test.YtaocdnebglnkeaaDoorDepLaw
set_option linter.unusedSimpArgs false
set_option linter.unusedVariables false
namespace Go.Proofs.YtaocdnebglnkeaaDoor.P
open Go.RowKit Go.Lib Go.Proofs.YtaocdnebglnkeaaDoorW.PrintWords Go.Proofs.YtaocdnebglnkeaaDoorW.PrintLast Go.Proofs.YtaocdnebglnkeaaDoorW.PrintMore Go.Proofs.YtaocdnebglnkeaaDoor.U Go.Proofs.YtaocdnebglnkeaaDoor.Dp

/-- A byte of a word. -/
def wordB (c : UInt8) : Bool := c != 32 && c != 10 && c != 58
def sepF (c : UInt8) : List Txt := if c = 32 then [] else [[c]]
/-- Words, with ":" and the ends of lines apart. -/
def tokG : Txt → Txt → List Txt
  | w, [] => Fld.flushF w
  | w, c :: r => if wordB c = true then tokG (w ++ [c]) r else Fld.flushF w ++ sepF c ++ tokG [] r
def isNL (t : Txt) : Bool := t == [10]
def stripR (l : List Txt) : List Txt := (l.reverse.dropWhile isNL).reverse
def stripT (l : List Txt) : List Txt := stripR (l.dropWhile isNL)
def depsR : List Txt → List Txt → Option (List Txt)
  | [], acc => some acc
  | p :: r, acc => if p = [58] ∨ p = [10] ∨ (cleanL p).2 ≠ 0 then none else if (cleanL p).1 ∈ acc then depsR r acc else depsR r (acc ++ [(cleanL p).1])
def ansR (oc : Txt) : Option (List Txt) → Txt × List Txt × Bool
  | none => ([], [], false)
  | some ds => (oc, ds, true)
def refT : List Txt → Txt × List Txt × Bool
  | a :: b :: r => if a = [58] ∨ b ≠ [58] then ([], [], false) else if (cleanL a).2 ≠ 0 then ([], [], false) else ansR (cleanL a).1 (depsR r [])
  | _ => ([], [], false)
def refL (text : Txt) : Txt × List Txt × Bool := if 16384 < text.length then ([], [], false) else refT (stripT (tokG [] (rep2 text)))

/-! ## The tokens of lines -/
theorem tok_nl (x y : Txt) (h : (10 : UInt8) ∉ x) : ∀ w, tokG w (x ++ 10 :: y) = tokG w x ++ [10] :: tokG [] y := by
  induction x with
  | nil => intro w; simp [tokG, wordB, sepF]
  | cons c x ih =>
    intro w
    have ih := ih (fun e => h (by simp [e]))
    rw [List.cons_append, tokG, tokG]
    split
    · rw [ih]
    · rw [ih]; simp
theorem tok_colon (x y : Txt) (h : (58 : UInt8) ∉ x) : ∀ w, tokG w (x ++ 58 :: y) = tokG w x ++ [58] :: tokG [] y := by
  induction x with
  | nil => intro w; simp [tokG, wordB, sepF]
  | cons c x ih =>
    intro w
    have ih := ih (fun e => h (by simp [e]))
    rw [List.cons_append, tokG, tokG]
    split
    · rw [ih]
    · rw [ih]; simp
/-- No colon and no end of line: the tokens are the fields. -/
theorem tok_fields (x : Txt) (h1 : (10 : UInt8) ∉ x) (h2 : (58 : UInt8) ∉ x) : ∀ w, tokG w x = Fld.fieldsGo w x := by
  induction x with
  | nil => intro w; rfl
  | cons c x ih =>
    intro w
    have ih := ih (fun e => h1 (by simp [e])) (fun e => h2 (by simp [e]))
    have c1 : c ≠ 10 := fun e => h1 (by simp [e])
    have c2 : c ≠ 58 := fun e => h2 (by simp [e])
    rw [tokG, Fld.fieldsGo]
    by_cases hc : c = 32
    · subst hc; simp [wordB, sepF, ih]
    · simp [wordB, hc, c1, c2, ih]
def tokLines : List Txt → List Txt
  | [] => []
  | [l] => tokG [] l
  | l :: m :: r => tokG [] l ++ [10] :: tokLines (m :: r)
theorem splitK_no (x : Txt) : ∀ l ∈ splitK 10 0 x, (10 : UInt8) ∉ l := by
  induction x with
  | nil => intro l hl; simp [splitK] at hl; subst hl; simp
  | cons b x ih =>
    intro l hl
    rw [splitK] at hl
    split at hl
    · rcases List.mem_cons.1 hl with rfl | hl
      · simp
      · exact ih l hl
    · rename_i hb
      cases h : splitK 10 0 x with
      | nil => exact absurd h (splitK_ne 10 0 x)
      | cons p ps =>
        rw [h] at hl
        rcases List.mem_cons.1 hl with rfl | hl
        · intro e
          rcases List.mem_cons.1 e with e | e
          · exact hb e.symm
          · exact ih p (by rw [h]; simp) e
        · exact ih l (by rw [h]; simp [hl])
theorem tok_lines (x : Txt) : tokG [] x = tokLines (splitK 10 0 x) := by
  rcases idx_cases x 10 with ⟨_, h⟩ | ⟨a, r, rfl, h, _⟩
  · rw [splitK_none 10 0 x h]; rfl
  · rw [splitK_app10, splitK_none 10 0 a h, tok_nl a r h, tok_lines r]
    cases hs : splitK 10 0 r with
    | nil => exact absurd hs (splitK_ne 10 0 r)
    | cons p ps => rfl
termination_by x.length
decreasing_by subst_vars; simp; omega
theorem blankL_iff (l : Txt) : blankL l = true ↔ ∀ c ∈ l, c = 32 := by
  constructor
  · intro h c hc
    by_cases h32 : c = 32
    · exact h32
    · rw [blankL_no hc h32] at h; cases h
  · intro h
    have hd : ∀ m : Txt, (∀ c ∈ m, c = 32) → m.dropWhile (· == 32) = [] := by
      intro m
      induction m with
      | nil => intro _; rfl
      | cons c m ih =>
        intro hm
        rw [List.dropWhile_cons, if_pos (by simp [hm c (by simp)])]
        exact ih (fun d hd => hm d (by simp [hd]))
    unfold blankL trimB trimLeftB trimRightB
    have h1 : (l.reverse.dropWhile (· == 32)) = [] := hd _ (fun c hc => h c (List.mem_reverse.1 hc))
    first
    | (rw [h1]; rfl)
    | (rw [hd l h]; rfl)
    | simp [h1, hd l h]
/-- A blank line has no tokens; a line that is not blank has one that is no end of line. -/
theorem tok_blank (l : Txt) (h : blankL l = true) : tokG [] l = [] := by
  have h' := (blankL_iff l).1 h
  clear h
  induction l with
  | nil => rfl
  | cons c l ih =>
    have hc : c = 32 := h' c (by simp)
    subst hc
    rw [tokG, if_neg (by decide), ih (fun c hc => h' c (by simp [hc]))]
    rfl
theorem tok_noNL (x : Txt) (h : (10 : UInt8) ∉ x) : ∀ w, (10 : UInt8) ∉ w → ∀ t ∈ tokG w x, (10 : UInt8) ∉ t := by
  induction x with
  | nil =>
    intro w hw t ht
    rw [tokG, Fld.flushF] at ht
    split at ht
    · cases ht
    · rw [List.mem_singleton.1 ht]; exact hw
  | cons c x ih =>
    intro w hw t ht
    have c1 : c ≠ 10 := fun e => h (by simp [e])
    have ih := ih (fun e => h (by simp [e]))
    rw [tokG] at ht
    split at ht
    · exact ih _ (by simp [hw, Ne.symm c1]) t ht
    · rcases List.mem_append.1 ht with ht | ht
      · rcases List.mem_append.1 ht with ht | ht
        · rw [Fld.flushF] at ht
          split at ht
          · cases ht
          · rw [List.mem_singleton.1 ht]; exact hw
        · unfold sepF at ht
          split at ht
          · cases ht
          · rw [List.mem_singleton.1 ht]; simp [Ne.symm c1]
      · exact ih [] (by simp) t ht
theorem tok_some (x : Txt) : ∀ w, (w ≠ [] ∨ ∃ c ∈ x, c ≠ 32) → tokG w x ≠ [] := by
  induction x with
  | nil =>
    intro w h
    rcases h with h | ⟨c, hc, _⟩
    · simp [tokG, Fld.flushF, h]
    · cases hc
  | cons c x ih =>
    intro w h
    rw [tokG]
    split
    · exact ih _ (.inl (by simp))
    · by_cases hw : w = []
      · by_cases h32 : c = 32
        · subst h32
          have : ∃ c ∈ x, c ≠ 32 := by
            rcases h with h | ⟨d, hd, h1⟩
            · exact absurd hw h
            · rcases List.mem_cons.1 hd with rfl | hd
              · exact absurd rfl h1
              · exact ⟨d, hd, h1⟩
          have := ih [] (.inr this)
          simp [Fld.flushF, hw, sepF, this]
        · simp [sepF, h32]
      · simp [Fld.flushF, hw]
theorem tok_nonblank (l : Txt) (h : blankL l = false) : tokG [] l ≠ [] := by
  refine tok_some l [] (.inr ?_)
  apply Classical.byContradiction
  intro hn
  have : blankL l = true := (blankL_iff l).2 (fun c hc => Classical.byContradiction fun h32 => hn ⟨c, hc, h32⟩)
  rw [h] at this; cases this
theorem isNL_of (t : Txt) (h : (10 : UInt8) ∉ t) : isNL t = false := by
  cases hq : isNL t with
  | false => rfl
  | true =>
    have : t = [10] := by simpa [isNL] using hq
    rw [this] at h; simp at h

/-! ## Stripping -/
theorem stripR_app (A B : List Txt) (h : ∃ t ∈ B, isNL t = false) : stripR (A ++ B) = A ++ stripR B := by
  unfold stripR
  rw [List.reverse_append]
  have : (B.reverse ++ A.reverse).dropWhile isNL = B.reverse.dropWhile isNL ++ A.reverse := by
    have gen : ∀ (M K : List Txt), (∃ t ∈ M, isNL t = false) → (M ++ K).dropWhile isNL = M.dropWhile isNL ++ K := by
      intro M K
      induction M with
      | nil => rintro ⟨t, ht, _⟩; cases ht
      | cons m M ih =>
        rintro ⟨t, ht, h1⟩
        rw [List.cons_append, List.dropWhile_cons, List.dropWhile_cons]
        by_cases hm : isNL m = true
        · rw [if_pos hm, if_pos hm]
          refine ih ⟨t, ?_, h1⟩
          rcases List.mem_cons.1 ht with rfl | ht
          · rw [h1] at hm; cases hm
          · exact ht
        · rw [if_neg hm, if_neg hm]; rfl
    obtain ⟨t, ht, h1⟩ := h
    exact gen _ _ ⟨t, by simp [ht], h1⟩
  rw [this]
  simp
theorem stripR_nls (A : List Txt) (k : Nat) (h : ∀ t ∈ A, isNL t = false) : stripR (A ++ List.replicate k [10]) = A := by
  unfold stripR
  rw [List.reverse_append]
  have h1 : ∀ (k : Nat) (K : List Txt), ((List.replicate k ([10] : Txt)).reverse ++ K).dropWhile isNL = K.dropWhile isNL := by
    intro k K
    rw [List.reverse_replicate]
    induction k with
    | zero => rfl
    | succ k ih => rw [List.replicate_succ, List.cons_append, List.dropWhile_cons, if_pos (by rfl), ih]
  rw [h1]
  cases hA : A.reverse with
  | nil => have : A = [] := by simpa using hA
           subst this; rfl
  | cons a B =>
    have : isNL a = false := h a (by have : a ∈ A.reverse := by rw [hA]; simp
                                     simpa using this)
    rw [List.dropWhile_cons, if_neg (by rw [this]; simp), ← hA, List.reverse_reverse]
/-- The lines' tokens, by how many lines are not blank. -/
theorem tl_cons (l : Txt) (r : List Txt) (hr : r ≠ []) : tokLines (l :: r) = tokG [] l ++ [10] :: tokLines r := by
  cases r with
  | nil => exact absurd rfl hr
  | cons m r => rfl
theorem tl_blank (L : List Txt) (h : ∀ l ∈ L, blankL l = true) : ∃ k, tokLines L = List.replicate k [10] := by
  induction L with
  | nil => exact ⟨0, rfl⟩
  | cons l r ih =>
    obtain ⟨k, hk⟩ := ih (fun x hx => h x (by simp [hx]))
    by_cases hr : r = []
    · subst hr; exact ⟨0, tok_blank l (h l (by simp))⟩
    · exact ⟨k + 1, by rw [tl_cons l r hr, tok_blank l (h l (by simp)), hk]; rfl⟩
theorem tl_some (L : List Txt) (hno : ∀ l ∈ L, (10 : UInt8) ∉ l) (h : ∃ l ∈ L, blankL l = false) : ∃ t ∈ tokLines L, isNL t = false := by
  induction L with
  | nil => obtain ⟨l, hl, _⟩ := h; cases hl
  | cons l r ih =>
    by_cases hb : blankL l = false
    · have hne := tok_nonblank l hb
      obtain ⟨t, T, hT⟩ : ∃ t T, tokG [] l = t :: T := by
        cases hq : tokG [] l with
        | nil => exact absurd hq hne
        | cons t T => exact ⟨t, T, rfl⟩
      have ht : isNL t = false := isNL_of t (tok_noNL l (hno l (by simp)) [] (by simp) t (by rw [hT]; simp))
      refine ⟨t, ?_, ht⟩
      by_cases hr : r = []
      · subst hr; show t ∈ tokG [] l; rw [hT]; simp
      · rw [tl_cons l r hr, hT]; simp
    · obtain ⟨x, hx, hxb⟩ := h
      have hxr : x ∈ r := by
        rcases List.mem_cons.1 hx with rfl | hx
        · exact absurd hxb hb
        · exact hx
      obtain ⟨t, ht, h1⟩ := ih (fun x hx => hno x (by simp [hx])) ⟨x, hxr, hxb⟩
      refine ⟨t, ?_, h1⟩
      rw [tl_cons l r (by intro e; subst e; cases hxr)]
      simp [ht]
/-- What stripping leaves: nothing; a line's tokens; or more than that. -/
theorem strip_lines (L : List Txt) (hno : ∀ l ∈ L, (10 : UInt8) ∉ l) :
    (lineF L none = some none ∧ stripT (tokLines L) = []) ∨
    (∃ s, lineF L none = some (some s) ∧ s ∈ L ∧ stripT (tokLines L) = tokG [] s) ∨
    (lineF L none = none ∧ ∃ u v, u ≠ [] ∧ stripT (tokLines L) = u ++ [10] :: v) := by
  have two : ∀ (r : List Txt) (s : Txt), (lineF r (some s) = some (some s) ∧ ∀ l ∈ r, blankL l = true) ∨ (lineF r (some s) = none ∧ ∃ l ∈ r, blankL l = false) := by
    intro r s
    induction r with
    | nil => exact .inl ⟨rfl, by simp⟩
    | cons l r ih =>
      simp only [lineF]
      by_cases hb : blankL l = true
      · rw [if_pos hb]
        rcases ih with ⟨h1, h2⟩ | ⟨h1, x, hx, h2⟩
        · exact .inl ⟨h1, fun x hx => by rcases List.mem_cons.1 hx with rfl | hx; exact hb; exact h2 x hx⟩
        · exact .inr ⟨h1, x, by simp [hx], h2⟩
      · rw [if_neg hb]
        exact .inr ⟨rfl, l, by simp, by simpa using hb⟩
  induction L with
  | nil => exact .inl ⟨rfl, rfl⟩
  | cons l r ih =>
    have ih := ih (fun x hx => hno x (by simp [hx]))
    simp only [lineF]
    by_cases hb : blankL l = true
    · rw [if_pos hb]
      by_cases hr : r = []
      · subst hr
        exact .inl ⟨rfl, by show stripT (tokG [] l) = []; rw [tok_blank l hb]; rfl⟩
      · have hs : stripT (tokLines (l :: r)) = stripT (tokLines r) := by
          rw [tl_cons l r hr, tok_blank l hb]
          unfold stripT
          rw [List.nil_append, List.dropWhile_cons, if_pos (by rfl)]
        rw [hs]
        rcases ih with h | ⟨s, h1, h2, h3⟩ | h
        · exact .inl h
        · exact .inr (.inl ⟨s, h1, by simp [h2], h3⟩)
        · exact .inr (.inr h)
    · rw [if_neg hb]
      have hb' : blankL l = false := by simpa using hb
      have hne := tok_nonblank l hb'
      have hall : ∀ t ∈ tokG [] l, isNL t = false := fun t ht => isNL_of t (tok_noNL l (hno l (by simp)) [] (by simp) t ht)
      have hdrop : ∀ Z, (tokG [] l ++ Z).dropWhile isNL = tokG [] l ++ Z := by
        intro Z
        cases hq : tokG [] l with
        | nil => exact absurd hq hne
        | cons t T => rw [List.cons_append, List.dropWhile_cons, if_neg (by rw [hall t (by rw [hq]; simp)]; simp)]
      rcases two r l with ⟨h1, h2⟩ | ⟨h1, h2⟩
      · refine .inr (.inl ⟨l, h1, by simp, ?_⟩)
        by_cases hr : r = []
        · subst hr
          show stripT (tokG [] l) = _
          have := hdrop []
          rw [List.append_nil] at this
          unfold stripT
          rw [this]
          have := stripR_nls (tokG [] l) 0 hall
          simpa using this
        · obtain ⟨k, hk⟩ := tl_blank r h2
          rw [tl_cons l r hr, hk]
          unfold stripT
          rw [hdrop]
          exact stripR_nls (tokG [] l) (k + 1) hall
      · refine .inr (.inr ⟨h1, tokG [] l, stripR (tokLines r), hne, ?_⟩)
        obtain ⟨x, hx, hxb⟩ := h2
        have hr : r ≠ [] := by intro e; subst e; cases hx
        have hsome := tl_some r (fun x hx => hno x (by simp [hx])) ⟨x, hx, hxb⟩
        rw [tl_cons l r hr]
        unfold stripT
        rw [hdrop, show tokG [] l ++ [10] :: tokLines r = (tokG [] l ++ [[10]]) ++ tokLines r by simp, stripR_app _ _ hsome]
        simp
/-! ## The two answers -/
theorem depsR_bad (L : List Txt) (p : Txt) (hp : p ∈ L) (hb : p = [58] ∨ p = [10]) : ∀ acc, depsR L acc = none := by
  induction L with
  | nil => cases hp
  | cons q L ih =>
    intro acc
    rw [depsR]
    split
    · rfl
    · rename_i hq
      have hqp : p ≠ q := by
        rintro rfl
        rcases hb with h | h
        · exact hq (.inl h)
        · exact hq (.inr (.inl h))
      have hp' : p ∈ L := by
        rcases List.mem_cons.1 hp with h | h
        · exact absurd h hqp
        · exact h
      split <;> exact ih hp' _
theorem depsR_F (L : List Txt) (h : ∀ p ∈ L, p ≠ [58] ∧ p ≠ [10]) : ∀ acc, depsR L acc = depsF L acc := by
  induction L with
  | nil => intro acc; rfl
  | cons q L ih =>
    intro acc
    have ih := ih (fun p hp => h p (by simp [hp]))
    obtain ⟨h1, h2⟩ := h q (by simp)
    rw [depsR, depsF]
    simp only [h1, h2, false_or, ih]
theorem refT_nl (u v : List Txt) (hu : u ≠ []) : refT (u ++ [10] :: v) = ([], [], false) := by
  cases u with
  | nil => exact absurd rfl hu
  | cons a u =>
    cases u with
    | nil =>
      show refT (a :: [10] :: v) = _
      rw [refT, if_pos (.inr (by decide))]
    | cons b r =>
      show refT (a :: b :: (r ++ [10] :: v)) = _
      rw [refT]
      split
      · rfl
      · split
        · rfl
        · rw [depsR_bad _ [10] (by simp) (.inr rfl)]; rfl
theorem trim_split (a : Txt) : ∃ i j, a = List.replicate i 32 ++ trimB a 32 ++ List.replicate j 32 ∧ (∀ c, (trimB a 32).head? = some c → c ≠ 32) ∧ (∀ c, (trimB a 32).getLast? = some c → c ≠ 32) := by
  have dl : ∀ m : Txt, ∃ i, m = List.replicate i 32 ++ m.dropWhile (· == 32) ∧ ∀ c, (m.dropWhile (· == 32)).head? = some c → c ≠ 32 := by
    intro m
    induction m with
    | nil => exact ⟨0, rfl, by simp⟩
    | cons c m ih =>
      by_cases hc : c = 32
      · subst hc
        obtain ⟨i, h1, h2⟩ := ih
        refine ⟨i + 1, ?_, ?_⟩
        · rw [List.dropWhile_cons, if_pos (by simp), List.replicate_succ, List.cons_append, ← h1]
        · rw [List.dropWhile_cons, if_pos (by simp)]; exact h2
      · refine ⟨0, by rw [List.dropWhile_cons, if_neg (by simpa using hc)]; rfl, fun d hd => ?_⟩
        rw [List.dropWhile_cons, if_neg (by simpa using hc)] at hd
        obtain rfl : c = d := by simpa using hd
        exact hc
  have dr : ∀ m : Txt, ∃ j, m = (m.reverse.dropWhile (· == 32)).reverse ++ List.replicate j 32 ∧ ∀ c, ((m.reverse.dropWhile (· == 32)).reverse).getLast? = some c → c ≠ 32 := by
    intro m
    obtain ⟨j, h1, h2⟩ := dl m.reverse
    refine ⟨j, ?_, fun c hc => h2 c (by rwa [List.getLast?_reverse] at hc)⟩
    have := congrArg List.reverse h1
    rwa [List.reverse_reverse, List.reverse_append, List.reverse_replicate] at this
  obtain ⟨j, h1, h2⟩ := dr a
  obtain ⟨i, g1, g2⟩ := dl (trimRightB a 32)
  refine ⟨i, j, ?_, g2, fun c hc => h2 c ?_⟩
  · show a = List.replicate i 32 ++ (trimRightB a 32).dropWhile (· == 32) ++ List.replicate j 32
    rw [← g1]; exact h1
  · show (trimRightB a 32).getLast? = some c
    rw [g1, List.getLast?_append]
    have hc' : ((trimRightB a 32).dropWhile (· == 32)).getLast? = some c := hc
    rw [hc']; rfl
theorem fields_lead (i : Nat) (x : Txt) : Fld.fieldsGo [] (List.replicate i 32 ++ x) = Fld.fieldsGo [] x := by
  induction i with
  | zero => rfl
  | succ i ih => rw [List.replicate_succ, List.cons_append, Fld.fieldsGo, if_pos rfl, ih]; rfl
theorem fields_tail (j : Nat) (x : Txt) : Fld.fieldsGo [] (x ++ List.replicate j 32) = Fld.fieldsGo [] x := by
  cases j with
  | zero => simp
  | succ j =>
    rw [List.replicate_succ, fields_at]
    have := fields_lead j []
    rw [List.append_nil] at this
    rw [this]
    simp [Fld.fieldsGo, Fld.flushF]
theorem fields_trim (a : Txt) : Fld.fieldsT a = Fld.fieldsT (trimB a 32) := by
  obtain ⟨i, j, h, _, _⟩ := trim_split a
  have : Fld.fieldsGo [] a = Fld.fieldsGo [] (List.replicate i 32 ++ (trimB a 32 ++ List.replicate j 32)) := by rw [← List.append_assoc, ← h]
  rw [Fld.fieldsT, this, fields_lead, fields_tail]; rfl
theorem fields_one (t : Txt) (h : (32 : UInt8) ∉ t) (hne : t ≠ []) : Fld.fieldsT t = [t] := by
  have := Fld.fieldsGo_none t h [] []
  rw [List.append_nil, List.nil_append] at this
  rw [Fld.fieldsT, this]
  simp [Fld.fieldsGo, Fld.flushF, hne]
theorem fields_ne (x : Txt) (c : UInt8) (hc : c ∈ x) (h32 : c ≠ 32) : ∃ t T, Fld.fieldsGo [] x = t :: T := by
  obtain ⟨p, hp, _⟩ := fields_mem h32 x [] (by simpa using hc)
  cases hq : Fld.fieldsGo [] x with
  | nil => rw [hq] at hp; cases hp
  | cons t T => exact ⟨t, T, rfl⟩
/-- A trimmed text with a blank within has two fields or more. -/
theorem fields_two (a : Txt) (h : (32 : UInt8) ∈ trimB a 32) : ∃ x y z, Fld.fieldsT a = x :: y :: z := by
  obtain ⟨i, j, _, hh, hl⟩ := trim_split a
  rw [fields_trim]
  obtain ⟨u, v, ht⟩ := List.append_of_mem h
  rw [ht] at hh hl ⊢
  obtain ⟨c, hcu, hc32⟩ : ∃ c ∈ u, c ≠ 32 := by
    cases u with
    | nil => exact absurd rfl (hh 32 (by simp))
    | cons c u => exact ⟨c, by simp, hh c (by simp)⟩
  obtain ⟨d, hdv, hd32⟩ : ∃ d ∈ v, d ≠ 32 := by
    cases hv : v.getLast? with
    | none =>
      have : v = [] := List.getLast?_eq_none_iff.1 hv
      subst this
      exact absurd rfl (hl 32 (by simp))
    | some d => exact ⟨d, List.mem_of_getLast? hv, hl d (by rw [List.getLast?_append, List.getLast?_cons, hv]; rfl)⟩
  obtain ⟨x, X, hX⟩ := fields_ne u c hcu hc32
  obtain ⟨y, Y, hY⟩ := fields_ne v d hdv hd32
  rw [Fld.fieldsT, fields_at, hX, hY]
  cases X with
  | nil => exact ⟨x, y, Y, rfl⟩
  | cons z Z => exact ⟨x, z, Z ++ y :: Y, rfl⟩
theorem fields_sub (x : Txt) : ∀ w, ∀ t ∈ Fld.fieldsGo w x, ∀ c ∈ t, c ∈ w ∨ c ∈ x := by
  induction x with
  | nil =>
    intro w t ht c hc
    rw [Fld.fieldsGo, Fld.flushF] at ht
    split at ht
    · cases ht
    · rw [List.mem_singleton.1 ht] at hc; exact .inl hc
  | cons b x ih =>
    intro w t ht c hc
    rw [Fld.fieldsGo] at ht
    split at ht
    · rcases List.mem_append.1 ht with ht | ht
      · rw [Fld.flushF] at ht
        split at ht
        · cases ht
        · rw [List.mem_singleton.1 ht] at hc; exact .inl hc
      · rcases ih [] t ht c hc with h | h
        · cases h
        · exact .inr (by simp [h])
    · rcases ih (w ++ [b]) t ht c hc with h | h
      · rcases List.mem_append.1 h with h | h
        · exact .inl h
        · exact .inr (by rw [List.mem_singleton.1 h]; simp)
      · exact .inr (by simp [h])
theorem fields_no (x : Txt) (d : UInt8) (h : d ∉ x) : ∀ t ∈ Fld.fieldsT x, d ∉ t := by
  intro t ht hd
  rcases fields_sub x [] t ht d hd with h' | h'
  · cases h'
  · exact h h'
theorem refT_none (l : List Txt) (h : ∀ t ∈ l, t ≠ [58]) : refT l = ([], [], false) := by
  cases l with
  | nil => rfl
  | cons a l =>
    cases l with
    | nil => rfl
    | cons b r => rw [refT, if_pos (.inr (h b (by simp)))]
def bad14 : Txt × List Txt × Int := ([], [], 14)
/-- Both tell the same. -/
theorem ref_same (text : Txt) : refL text = ((parseL text).1, (parseL text).2.1, decide ((parseL text).2.2 = 0)) ∧ ((parseL text).2.2 = 0 ∨ (parseL text).2.2 = 14) := by
  have both : ∀ {x : Txt × List Txt × Bool} {y : Txt × List Txt × Int}, x = ([], [], false) → y = ([], [], 14) → x = (y.1, y.2.1, decide (y.2.2 = 0)) ∧ (y.2.2 = 0 ∨ y.2.2 = 14) := by
    rintro _ _ rfl rfl; exact ⟨rfl, .inr rfl⟩
  unfold refL parseL
  by_cases hl : 16384 < text.length
  · rw [if_pos hl, if_pos hl]; exact both rfl rfl
  · rw [if_neg hl, if_neg hl, tok_lines]
    have hno := splitK_no (rep2 text)
    rcases strip_lines (splitK 10 0 (rep2 text)) hno with ⟨h1, h2⟩ | ⟨s, h1, hs, h2⟩ | ⟨h1, u, v, hu, h2⟩
    · rw [h2, lineL, h1]
      refine both rfl ?_
      rw [if_neg (by rintro ⟨h, _⟩; cases h)]
    · rw [h2]
      have hls : lineL text = (s, true) := by rw [lineL, h1]; rfl
      rw [hls]
      have h10 := hno s hs
      simp only [true_and]
      rcases idx_cases s 58 with ⟨_, h58⟩ | ⟨a, r, hsa, h58, _⟩
      · refine both ?_ ?_
        · rw [tok_fields s h10 h58]
          exact refT_none _ (fun t ht e => fields_no s 58 h58 t ht (by rw [e]; simp))
        · rw [if_neg]
          intro hf
          obtain ⟨a, r, e, _⟩ := (form_iff s).1 hf
          exact h58 (by rw [e]; simp)
      · have ha10 : (10 : UInt8) ∉ a := fun e => h10 (by rw [hsa]; simp [e])
        have hr10 : (10 : UInt8) ∉ r := fun e => h10 (by rw [hsa]; simp [e])
        have hcut := cut_at a r h58
        have hform : formL s = (!(blankL a) && !decide (0 ≤ indexByte r 58)) := by rw [formL, hsa, hcut]; rfl
        have hout : outL s = trimB a 32 := by rw [outL, hsa, hcut]
        have hrest : restL s = Fld.fieldsT r := by rw [restL, hsa, hcut]
        rw [hform, hout, hrest, hsa, tok_colon a r h58, tok_fields a ha10 h58]
        have hbadp : ∀ {x : Txt × List Txt × Bool}, x = ([], [], false) → (formL s = true → (cleanL (trimB a 32)).2 ≠ 0) →
            x = ((if (!(blankL a) && !decide (0 ≤ indexByte r 58)) = true then if (cleanL (trimB a 32)).2 ≠ 0 then ([], [], 14) else ansL (cleanL (trimB a 32)).1 (depsF (Fld.fieldsT r) []) else ([], [], 14) : Txt × List Txt × Int).1,
              (if (!(blankL a) && !decide (0 ≤ indexByte r 58)) = true then if (cleanL (trimB a 32)).2 ≠ 0 then ([], [], 14) else ansL (cleanL (trimB a 32)).1 (depsF (Fld.fieldsT r) []) else ([], [], 14) : Txt × List Txt × Int).2.1,
              decide ((if (!(blankL a) && !decide (0 ≤ indexByte r 58)) = true then if (cleanL (trimB a 32)).2 ≠ 0 then ([], [], 14) else ansL (cleanL (trimB a 32)).1 (depsF (Fld.fieldsT r) []) else ([], [], 14) : Txt × List Txt × Int).2.2 = 0)) ∧
            ((if (!(blankL a) && !decide (0 ≤ indexByte r 58)) = true then if (cleanL (trimB a 32)).2 ≠ 0 then ([], [], 14) else ansL (cleanL (trimB a 32)).1 (depsF (Fld.fieldsT r) []) else ([], [], 14) : Txt × List Txt × Int).2.2 = 0 ∨
             (if (!(blankL a) && !decide (0 ≤ indexByte r 58)) = true then if (cleanL (trimB a 32)).2 ≠ 0 then ([], [], 14) else ansL (cleanL (trimB a 32)).1 (depsF (Fld.fieldsT r) []) else ([], [], 14) : Txt × List Txt × Int).2.2 = 14) := by
          intro x hx hc
          refine both hx ?_
          by_cases hf : (!(blankL a) && !decide (0 ≤ indexByte r 58)) = true
          · rw [if_pos hf, if_pos (hc (by rw [hform]; exact hf))]
          · rw [if_neg hf]
        by_cases hb : blankL a = true
        · have hfa : Fld.fieldsGo [] a = [] := by rw [← tok_fields a ha10 h58]; exact tok_blank a hb
          rw [hfa]
          refine hbadp ?_ (fun hf => by rw [hform, hb] at hf; cases hf)
          cases hq : tokG [] r with
          | nil => rfl
          | cons b R => show refT ([58] :: b :: R) = _; rw [refT, if_pos (.inl rfl)]
        · have hb' : blankL a = false := by simpa using hb
          have htne : trimB a 32 ≠ [] := by intro e; unfold blankL at hb'; rw [e] at hb'; cases hb'
          by_cases h32 : (32 : UInt8) ∈ trimB a 32
          · obtain ⟨x, y, z, hxyz⟩ := fields_two a h32
            have hy : y ≠ [58] := fun e => fields_no a 58 h58 y (by rw [hxyz]; simp) (by rw [e]; simp)
            have hxyz' : Fld.fieldsGo [] a = x :: y :: z := hxyz
            rw [hxyz']
            refine hbadp ?_ (fun _ hc => ?_)
            · show refT (x :: y :: (z ++ [58] :: tokG [] r)) = _
              rw [refT, if_pos (.inr hy)]
            · have := clean_plain hc
              rw [List.all_eq_true] at this
              exact absurd (this 32 h32) (by decide)
          · have hfa : Fld.fieldsGo [] a = [trimB a 32] := (fields_trim a).trans (fields_one _ h32 htne)
            rw [hfa]
            have ht58 : trimB a 32 ≠ [58] := by
              intro e
              have : (trimB a 32) ∈ Fld.fieldsT a := by rw [show Fld.fieldsT a = [trimB a 32] from hfa]; simp
              exact fields_no a 58 h58 _ this (by rw [e]; simp)
            have hR : refT ([trimB a 32] ++ [58] :: tokG [] r) = if (cleanL (trimB a 32)).2 ≠ 0 then ([], [], false) else ansR (cleanL (trimB a 32)).1 (depsR (tokG [] r) []) := by
              show refT (trimB a 32 :: [58] :: tokG [] r) = _
              rw [refT, if_neg (by simp [ht58])]
            by_cases hr : (58 : UInt8) ∈ r
            · refine hbadp ?_ (fun hf => ?_)
              · rw [hR]
                split
                · rfl
                · rcases idx_cases r 58 with ⟨_, h⟩ | ⟨b, q, hbq, hb58, _⟩
                  · exact absurd hr h
                  · rw [depsR_bad _ [58] (by rw [hbq, tok_colon b q hb58]; simp) (.inl rfl)]; rfl
              · rw [hform, hb'] at hf
                have : decide (0 ≤ indexByte r 58) = false := by simpa using hf
                exact absurd hr ((no58 r).1 this)
            · have hd : decide (0 ≤ indexByte r 58) = false := (no58 r).2 hr
              rw [hR, hb', hd, tok_fields r hr10 hr, depsR_F (Fld.fieldsGo [] r) (fun t ht => ⟨fun e => fields_no r 58 hr t ht (by rw [e]; simp), fun e => fields_no r 10 hr10 t ht (by rw [e]; simp)⟩)]
              simp only [Bool.not_false, Bool.and_true, if_true]
              by_cases hc : (cleanL (trimB a 32)).2 ≠ 0
              · rw [if_pos hc, if_pos hc]; exact both rfl rfl
              · rw [if_neg hc, if_neg hc]
                show ansR _ (depsF (Fld.fieldsT r) []) = _ ∧ _
                cases depsF (Fld.fieldsT r) [] with
                | none => exact both rfl rfl
                | some ds => exact ⟨rfl, .inl rfl⟩
    · rw [h2, lineL, h1]
      refine both (refT_nl u v hu) ?_
      rw [if_neg (by rintro ⟨h, _⟩; cases h)]
end Go.Proofs.YtaocdnebglnkeaaDoor.P
