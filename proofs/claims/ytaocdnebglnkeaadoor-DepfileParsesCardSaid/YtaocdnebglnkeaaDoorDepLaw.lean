/- Plain lemmas that the laws of layer 14 share. -/
import Derived.Test.YtaocdnebglnkeaaDoorDepParse
import Derived.Test.YtaocdnebglnkeaaDoorPBellowsref11Names0
import Derived.Test.YtaocdnebglnkeaaDoorPBellowslaw14Awake0
set_option linter.unusedSimpArgs false
set_option linter.unusedVariables false
namespace Go.Proofs.YtaocdnebglnkeaaDoor.P
open Go.RowKit Go.Lib Go.Proofs.YtaocdnebglnkeaaDoorW.PrintWords Go.Proofs.YtaocdnebglnkeaaDoorW.PrintLast Go.Proofs.YtaocdnebglnkeaaDoorW.PrintMore Go.Proofs.YtaocdnebglnkeaaDoor.U Go.Proofs.YtaocdnebglnkeaaDoor.Dp

theorem names_loop (xs : List ByteArray) (hn : xs.length < 100000) (d : Nat) : ∀ i : Nat, i + d = xs.length → Ev (fun k => bellowsref11_Names.l0 k xs xs (i : Int)) true := by
  induction d with
  | zero =>
    intro i hi
    refine Ev.unroll ?_
    have h1 : ¬ (i : Int) < (xs.length : Int) := by omega
    simp only [bellowsref11_Names.l0, if_neg h1]
    exact Ev.now _
  | succ d ih =>
    intro i hi
    refine Ev.unroll ?_
    have h1 : (i : Int) < (xs.length : Int) := by omega
    have h2 : (0 : Int) ≤ (i : Int) := by omega
    have hr := ih (i + 1) (by omega)
    have hw := wrap_succ i (by omega)
    simp only [bellowsref11_Names.l0, if_pos h1, if_pos h2, if_true, hw]
    exact hr
theorem names_self (xs : List ByteArray) (hn : xs.length < 100000) : Ev (fun k => bellowsref11_Names.f k xs xs) true := by
  simp only [bellowsref11_Names.f, if_true]
  exact names_loop xs hn xs.length 0 (by omega)
theorem parse_f (l : List UInt8) : depfile_Parse.f (B l) = some (B (parseL l).1, (parseL l).2.1.map B, (parseL l).2.2) := rfl
theorem awake_true : Ev (fun k => bellowslaw14_awake.f k) true := by
  have e : parseL [111, 58, 32, 97, 32, 92, 10, 32, 98, 47, 46, 46, 47, 99] = ([111], [[97], [99]], 0) := by decide +kernel
  have h := parse_f [111, 58, 32, 97, 32, 92, 10, 32, 98, 47, 46, 46, 47, 99]
  rw [e] at h
  have h' : depfile_Parse.f (⟨#[111, 58, 32, 97, 32, 92, 10, 32, 98, 47, 46, 46, 47, 99]⟩ : ByteArray) = some (B [111], [B [97], B [99]], 0) := h
  unfold bellowslaw14_awake.f
  simp only [h', Option.bind_some, if_true, toList_B]
  exact Ev.bind (names_self [B [97], B [99]] (by decide)) (Ev.now _)

theorem idx_cases (l : Txt) (c : UInt8) : (indexByte l c = -1 ∧ c ∉ l) ∨ ∃ a r, l = a ++ c :: r ∧ c ∉ a ∧ indexByte l c = (a.length : Int) := by
  induction l with
  | nil => exact .inl ⟨rfl, by simp⟩
  | cons b l ih =>
    by_cases hb : b = c
    · exact .inr ⟨[], l, by simp [hb], by simp, by simp [indexByte, hb]⟩
    · rcases ih with ⟨h1, h2⟩ | ⟨a, r, rfl, h2, h3⟩
      · exact .inl ⟨by simp [indexByte, hb, h1], by simp [h2, Ne.symm hb]⟩
      · exact .inr ⟨b :: a, r, by simp, by simp [h2, Ne.symm hb], by simp [indexByte, hb, h3] <;> omega⟩
theorem indexByte_at (a r : Txt) (c : UInt8) (h : c ∉ a) : indexByte (a ++ c :: r) c = (a.length : Int) := by
  induction a with
  | nil => simp [indexByte]
  | cons b a ih =>
    have hb : ¬ b = c := fun e => h (by simp [e])
    have := ih (fun e => h (by simp [e]))
    simp [indexByte, hb, this] <;> omega
theorem cut_at (a r : Txt) (h : (58 : UInt8) ∉ a) : cut (a ++ 58 :: r) [58] = (a, r, true) := by
  have hi : index (a ++ 58 :: r) [58] = (a.length : Int) := by rw [index_one, indexByte_at a r 58 h]
  rw [cut, hi, if_pos (by omega)]
  have e : (a.length : Int).toNat + ([58] : Txt).length = (a ++ [58]).length := by simp
  rw [e, show a ++ 58 :: r = (a ++ [58]) ++ r by simp, List.drop_left]
  simp
theorem cut_no (l : Txt) (h : (58 : UInt8) ∉ l) : (cut l [58]).2.2 = false := by
  rcases idx_cases l 58 with ⟨h1, _⟩ | ⟨a, r, rfl, _, _⟩
  · rw [cut, index_one, h1]; rfl
  · exact absurd (by simp) h
theorem no58 (l : Txt) : (decide (0 ≤ indexByte l 58) = false) ↔ (58 : UInt8) ∉ l := by
  rcases idx_cases l 58 with ⟨h1, h2⟩ | ⟨a, r, rfl, _, h3⟩
  · rw [h1]; simp [h2]
  · rw [h3]; simp
/-- The form of a line: a colon, something that is not blank ahead of it, no other colon. -/
theorem form_iff (l : Txt) : formL l = true ↔ ∃ a r, l = a ++ 58 :: r ∧ (58 : UInt8) ∉ a ∧ (58 : UInt8) ∉ r ∧ blankL a = false ∧ outL l = trimB a 32 ∧ restL l = Fld.fieldsT r := by
  constructor
  · intro h
    rcases idx_cases l 58 with ⟨_, h2⟩ | ⟨a, r, rfl, h2, _⟩
    · rw [formL, cut_no l h2] at h; simp at h
    · have hc := cut_at a r h2
      rw [formL, hc] at h
      simp only [Bool.true_and, Bool.and_eq_true, Bool.not_eq_true', no58] at h
      exact ⟨a, r, rfl, h2, h.2, h.1, by rw [outL, hc], by rw [restL, hc]⟩
  · rintro ⟨a, r, rfl, h2, h3, h4, _, _⟩
    have hc := cut_at a r h2
    rw [formL, hc, (no58 r).2 h3]
    have : (trimB a 32).isEmpty = false := h4
    simp [this]
theorem splitK_app10 (x y : Txt) : splitK 10 0 (x ++ 10 :: y) = splitK 10 0 x ++ splitK 10 0 y := by
  induction x with
  | nil => simp [splitK]
  | cons b x ih =>
    rw [List.cons_append, splitK, splitK]
    split
    · rw [ih]; simp
    · rw [ih]
      cases h : splitK 10 0 x with
      | nil => exact absurd h (splitK_ne 10 0 x)
      | cons p ps => simp
theorem splitK_last (x : Txt) : ∃ init last, splitK 10 0 x = init ++ [last] ∧ ∀ y, (10 : UInt8) ∉ y → splitK 10 0 (x ++ y) = init ++ [last ++ y] := by
  induction x with
  | nil => exact ⟨[], [], rfl, fun y hy => by rw [List.nil_append, splitK_none 10 0 y hy]; rfl⟩
  | cons b x ih =>
    obtain ⟨init, last, h1, h2⟩ := ih
    by_cases hb : b = 10
    · refine ⟨[] :: init, last, ?_, fun y hy => ?_⟩
      · rw [splitK, if_pos hb, h1]; rfl
      · rw [List.cons_append, splitK, if_pos hb, h2 y hy]; rfl
    · cases init with
      | nil =>
        refine ⟨[], b :: last, ?_, fun y hy => ?_⟩
        · rw [splitK, if_neg hb, h1]; rfl
        · rw [List.cons_append, splitK, if_neg hb, h2 y hy]; rfl
      | cons p ps =>
        refine ⟨(b :: p) :: ps, last, ?_, fun y hy => ?_⟩
        · rw [splitK, if_neg hb, h1]; rfl
        · rw [List.cons_append, splitK, if_neg hb, h2 y hy]; rfl
theorem mem_dropWhile {b : UInt8} {l : Txt} (h : b ∈ l) (hb : b ≠ 32) : b ∈ l.dropWhile (· == 32) := by
  induction l with
  | nil => cases h
  | cons c l ih =>
    rw [List.dropWhile_cons]
    split
    · rename_i hc
      have hc' : c = 32 := by simpa using hc
      rcases List.mem_cons.1 h with rfl | h
      · exact absurd hc' hb
      · exact ih h
    · exact h
theorem mem_trimB {b : UInt8} {l : Txt} (h : b ∈ l) (hb : b ≠ 32) : b ∈ trimB l 32 := by
  unfold trimB trimLeftB trimRightB
  refine mem_dropWhile ?_ hb
  rw [List.mem_reverse]
  exact mem_dropWhile (by rw [List.mem_reverse]; exact h) hb
theorem blankL_no {b : UInt8} {l : Txt} (h : b ∈ l) (hb : b ≠ 32) : blankL l = false := by
  have := mem_trimB h hb
  unfold blankL
  cases he : trimB l 32 with
  | nil => rw [he] at this; cases this
  | cons c r => rfl
theorem rep2_app (x y : Txt) (h : x.getLast? ≠ some 92 ∨ y.head? ≠ some 10) : rep2 (x ++ y) = rep2 x ++ rep2 y := by
  fun_induction rep2 x with
  | case1 => simp
  | case2 b =>
    cases y with
    | nil => simp [rep2]
    | cons d y =>
      have : ¬ (b = 92 ∧ d = 10) := by
        rintro ⟨rfl, rfl⟩
        rcases h with h | h <;> exact h rfl
      show rep2 (b :: d :: y) = b :: rep2 (d :: y)
      rw [rep2, if_neg this]
  | case3 b d r hc ih =>
    show rep2 (b :: d :: (r ++ y)) = _
    rw [rep2, if_pos hc, ih]
    · rfl
    · rcases h with h | h
      · left
        cases r with
        | nil => simp
        | cons e r => simpa using h
      · exact .inr h
  | case4 b d r hc ih =>
    show rep2 (b :: d :: (r ++ y)) = _
    rw [rep2, if_neg hc]
    have := ih (by rcases h with h | h; exact .inl (by simpa using h); exact .inr h)
    rw [List.cons_append] at this
    rw [this]; rfl
theorem rep2_bs (x : Txt) : rep2 (x ++ [92]) = rep2 x ++ [92] := by
  rw [rep2_app x [92] (.inr (by decide))]; rfl
theorem fields_mem {c : UInt8} (hc : c ≠ 32) (r : Txt) : ∀ w, c ∈ w ++ r → ∃ p ∈ Fld.fieldsGo w r, c ∈ p := by
  induction r with
  | nil =>
    intro w h
    rw [List.append_nil] at h
    have : w ≠ [] := by intro e; rw [e] at h; cases h
    exact ⟨w, by simp [Fld.fieldsGo, Fld.flushF, this], h⟩
  | cons b r ih =>
    intro w h
    rw [Fld.fieldsGo]
    by_cases hb : b = 32
    · rw [if_pos hb]
      rcases List.mem_append.1 h with h | h
      · have : w ≠ [] := by intro e; rw [e] at h; cases h
        exact ⟨w, by simp [Fld.flushF, this], h⟩
      · rcases List.mem_cons.1 h with h | h
        · exact absurd (h.trans hb) hc
        · obtain ⟨p, hp, hm⟩ := ih [] (by simpa using h)
          exact ⟨p, by simp [hp], hm⟩
    · rw [if_neg hb]
      exact ih (w ++ [b]) (by simpa using h)
theorem fields_at (x r : Txt) : ∀ w, Fld.fieldsGo w (x ++ 32 :: r) = Fld.fieldsGo w x ++ Fld.fieldsGo [] r := by
  induction x with
  | nil => intro w; simp [Fld.fieldsGo]
  | cons b x ih =>
    intro w
    rw [List.cons_append, Fld.fieldsGo, Fld.fieldsGo]
    split
    · rw [ih]; simp
    · rw [ih]
theorem deps_all (L : List Txt) : ∀ acc ds, depsF L acc = some ds → ∀ p ∈ L, (cleanL p).2 = 0 := by
  induction L with
  | nil => intro _ _ _ p hp; cases hp
  | cons q L ih =>
    intro acc ds h p hp
    rw [depsF] at h
    split at h
    · cases h
    · rename_i hq
      have hq' : (cleanL q).2 = 0 := by simpa using hq
      rcases List.mem_cons.1 hp with rfl | hp
      · exact hq'
      · split at h
        · exact ih _ _ h p hp
        · exact ih _ _ h p hp
theorem deps_bad (L : List Txt) (p : Txt) (hp : p ∈ L) (hb : (cleanL p).2 ≠ 0) (acc : List Txt) : depsF L acc = none := by
  cases h : depsF L acc with
  | none => rfl
  | some ds => exact absurd (deps_all L acc ds h p hp) hb
theorem clean_plain {p : Txt} (h : (cleanL p).2 = 0) : p.all plainB = true := by
  cases hp : p.all plainB with
  | true => rfl
  | false =>
    rw [cleanL] at h
    split at h
    · simp at h
    · rw [if_pos (.inr hp)] at h; simp at h
theorem clean_head {p : Txt} (h : (cleanL p).2 = 0) : p.head? ≠ some 47 := by
  intro hp
  rw [cleanL] at h
  split at h
  · simp at h
  · rw [if_pos (.inl hp)] at h; simp at h
/-- A text that tells something, taken apart. -/
theorem parse_ok {text : Txt} (h : (parseL text).2.2 = 0) : text.length ≤ 16384 ∧ ∃ s a r ds, lineF (splitK 10 0 (rep2 text)) none = some (some s) ∧ s = a ++ 58 :: r ∧ (58 : UInt8) ∉ a ∧ (58 : UInt8) ∉ r ∧ blankL a = false ∧
    (cleanL (trimB a 32)).2 = 0 ∧ depsF (Fld.fieldsT r) [] = some ds ∧ parseL text = ((cleanL (trimB a 32)).1, ds, 0) := by
  unfold parseL at h ⊢
  by_cases hl : 16384 < text.length
  · rw [if_pos hl] at h; simp at h
  · rw [if_neg hl] at h ⊢
    by_cases hf : (lineL text).2 = true ∧ formL (lineL text).1 = true
    · rw [if_pos hf] at h ⊢
      obtain ⟨hf1, hf2⟩ := hf
      obtain ⟨a, r, h1, h2, h3, h4, h5, h6⟩ := (form_iff _).1 hf2
      rw [h5, h6] at h ⊢
      by_cases hc : (cleanL (trimB a 32)).2 ≠ 0
      · rw [if_pos hc] at h; simp at h
      · rw [if_neg hc] at h ⊢
        cases hd : depsF (Fld.fieldsT r) [] with
        | none => rw [hd] at h; simp [ansL] at h
        | some ds =>
          refine ⟨by omega, (lineL text).1, a, r, ds, ?_, h1, h2, h3, h4, by simpa using hc, hd, rfl⟩
          unfold lineL at hf1 ⊢
          cases hF : lineF (splitK 10 0 (rep2 text)) none with
          | none => rw [hF] at hf1; simp [resF] at hf1
          | some o =>
            cases o with
            | none => rw [hF] at hf1; simp [resF] at hf1
            | some s => rfl
    · rw [if_neg hf] at h; simp at h
theorem parse_of_line {text : Txt} {o : Option (Option Txt)} (h : lineF (splitK 10 0 (rep2 text)) none = o) (hb : ∀ s, o = some (some s) → formL s = true → depsF (restL s) [] = none) : (parseL text).2.2 = 14 := by
  unfold parseL
  split
  · rfl
  · split
    · rename_i hf
      split
      · rfl
      · have hl : lineL text = resF o := by rw [lineL, h]
        rw [hl] at hf ⊢
        cases o with
        | none => cases hf.1
        | some o =>
          cases o with
          | none => cases hf.1
          | some s =>
            have := hb s rfl hf.2
            show (ansL _ (depsF (restL s) [])).2.2 = 14
            rw [this]; rfl
    · rfl
end Go.Proofs.YtaocdnebglnkeaaDoor.P
