/- path.plain at every rune; the library's IndexFunc with its negation: whether a byte of a name may not be there. -/
import Derived.Test.YtaocdnebglnkeaaDoorPathPlain
set_option linter.unusedSimpArgs false
set_option linter.unusedVariables false
namespace Go.Proofs.YtaocdnebglnkeaaDoor.P
open Go.RowKit Go.Lib Go.Proofs.YtaocdnebglnkeaaDoorW.PrintWords Go.Proofs.YtaocdnebglnkeaaDoor.U

def isSignR (c : Nat) : Bool := c == 46 || c == 95 || c == 45 || c == 43 || c == 47
def plainR (c : Nat) : Bool := (decide (97 ≤ c) && decide (c ≤ 122)) || (decide (65 ≤ c) && decide (c ≤ 90)) || (decide (48 ≤ c) && decide (c ≤ 57)) || isSignR c

theorem sign_ascii : ∀ c : Fin 128, decide (0 ≤ Lib.indexByte signs.data.toList ((c.val : Int).toNat.toUInt8)) = isSignR c.val := by decide +kernel
theorem sign_beyond (c : Nat) (h : 128 ≤ c) : isSignR c = false := by
  have h1 : ¬ c = 46 := by omega
  have h2 : ¬ c = 95 := by omega
  have h3 : ¬ c = 45 := by omega
  have h4 : ¬ c = 43 := by omega
  have h5 : ¬ c = 47 := by omega
  simp [isSignR, h1, h2, h3, h4, h5]

set_option maxRecDepth 100000 in
set_option maxHeartbeats 2000000 in
theorem containsRune_any (c : Nat) (h1 : c ≤ 1114111) (w : World) :
    Calls Tryd.prog 51 #[.string signs, .int .i32 (c : Int)] w fun e w' => e = .returned (.bool (isSignR c)) ∧ Below w.heap.size w w' := by
  by_cases hc : c < 128
  · have h := Tryd.strings_ContainsRune_ascii signs (c : Int) w (by omega) (by omega)
    have e := sign_ascii ⟨c, hc⟩
    simp only at e
    rw [e] at h
    exact h.mono fun e w' ⟨he, hw⟩ => ⟨he, hw ▸ Below.refl _ _⟩
  · have hI : Calls Tryd.prog 60 #[.string signs, .int .i32 (c : Int)] w fun e w' => e = .returned (.int .i64 (-1)) ∧ Below w.heap.size w w' := by
      by_cases hE : c = 65533
      · subst hE; exact indexRune_error w
      · by_cases hv : Lib.validRune (c : Int) = true
        · exact indexRune_valid c (by omega) h1 hE hv w
        · exact indexRune_invalid c (by omega) h1 hE (by simpa using hv) w
    have HI := Lib.hid hI
    clear hI
    rw [sign_beyond c (by omega)]
    go_enter Tryd.func51, Tryd.ntmps51
    go_wp2_with fail
    refine HI.out.mono ?_
    rintro e w' ⟨rfl, hb⟩
    go_wp2_with fail
    go_ret
    exact ⟨rfl, hb⟩

theorem not_sign_letter (c : Nat) (h : (97 ≤ c ∧ c ≤ 122) ∨ (65 ≤ c ∧ c ≤ 90) ∨ (48 ≤ c ∧ c ≤ 57)) : plainR c = true := by
  unfold plainR
  rcases h with ⟨a, b⟩ | ⟨a, b⟩ | ⟨a, b⟩ <;> simp [a, b]
theorem plain_other (c : Nat) (h : c < 48 ∨ (57 < c ∧ c < 65) ∨ (90 < c ∧ c < 97) ∨ 122 < c) : plainR c = isSignR c := by
  unfold plainR
  have h1 : ¬ (97 ≤ c ∧ c ≤ 122) := by omega
  have h2 : ¬ (65 ≤ c ∧ c ≤ 90) := by omega
  have h3 : ¬ (48 ≤ c ∧ c ≤ 57) := by omega
  have e1 : (decide (97 ≤ c) && decide (c ≤ 122)) = false := by rw [← Bool.decide_and]; simp only [decide_eq_false_iff_not]; exact h1
  have e2 : (decide (65 ≤ c) && decide (c ≤ 90)) = false := by rw [← Bool.decide_and]; simp only [decide_eq_false_iff_not]; exact h2
  have e3 : (decide (48 ≤ c) && decide (c ≤ 57)) = false := by rw [← Bool.decide_and]; simp only [decide_eq_false_iff_not]; exact h3
  simp [e1, e2, e3]

set_option maxRecDepth 100000 in
set_option maxHeartbeats 4000000 in
theorem plain_any (c : Nat) (h1 : c ≤ 1114111) (w : World) :
    Calls Tryd.prog 32 #[.int .i32 (c : Int)] w fun e w' => e = .returned (.bool (plainR c)) ∧ Below w.heap.size w w' := by
  rcases (show ((97 ≤ c ∧ c ≤ 122) ∨ (65 ≤ c ∧ c ≤ 90) ∨ (48 ≤ c ∧ c ≤ 57)) ∨ (c < 48 ∨ (57 < c ∧ c < 65) ∨ (90 < c ∧ c < 97) ∨ 122 < c) from by omega) with h | h
  · rw [not_sign_letter c h]
    rcases h with ⟨a, b⟩ | ⟨a, b⟩ | ⟨a, b⟩
    all_goals
      go_enter Tryd.func32, Tryd.ntmps32
      go_wp2_with fail
      go_ret
      exact ⟨rfl, Below.refl _ _⟩
  · have H := Lib.hid (plain_other c h)
    rcases h with a | ⟨a, b⟩ | ⟨a, b⟩ | a
    · go_enter Tryd.func32, Tryd.ntmps32
      go_wp2_with fail
      refine (containsRune_any c h1 _).mono ?_
      rintro e w' ⟨rfl, hb⟩
      go_wp2_with fail
      go_ret
      exact ⟨by rw [H.out]; rfl, hb⟩
    · have d57 : decide ((c : Int) ≤ 57) = false := by simp; omega
      go_enter Tryd.func32, Tryd.ntmps32
      go_wp2_with fail
      refine (containsRune_any c h1 _).mono ?_
      rintro e w' ⟨rfl, hb⟩
      go_wp2_with fail
      go_ret
      exact ⟨by rw [H.out]; rfl, hb⟩
    · have d57 : decide ((c : Int) ≤ 57) = false := by simp; omega
      have d90 : decide ((c : Int) ≤ 90) = false := by simp; omega
      go_enter Tryd.func32, Tryd.ntmps32
      go_wp2_with fail
      refine (containsRune_any c h1 _).mono ?_
      rintro e w' ⟨rfl, hb⟩
      go_wp2_with fail
      go_ret
      exact ⟨by rw [H.out]; rfl, hb⟩
    · have d57 : decide ((c : Int) ≤ 57) = false := by simp; omega
      have d90 : decide ((c : Int) ≤ 90) = false := by simp; omega
      have d122 : decide ((c : Int) ≤ 122) = false := by simp; omega
      go_enter Tryd.func32, Tryd.ntmps32
      go_wp2_with fail
      refine (containsRune_any c h1 _).mono ?_
      rintro e w' ⟨rfl, hb⟩
      go_wp2_with fail
      go_ret
      exact ⟨by rw [H.out]; rfl, hb⟩

/-- The literal that Clean hands on. -/
theorem notplain_grows (w : World) : PredGrows Tryd.prog 31 #[] (fun c => !plainR c) w := by
  intro W x hx hb
  go_enter Tryd.func31, Tryd.ntmps31
  go_wp2_with fail
  refine (plain_any x hx _).mono ?_
  rintro e w' ⟨rfl, hb2⟩
  go_wp2_with fail
  go_ret
  exact ⟨rfl, hb2⟩

def plainB (b : UInt8) : Bool := plainR b.toNat
theorem plainR_beyond (c : Nat) (h : 128 ≤ c) : plainR c = false := by rw [plain_other c (by omega)]; exact sign_beyond c h
/-- What is decoded at a place: the byte itself if it is ASCII, else a rune beyond. -/
theorem decode_at (s : ByteArray) (pos : Nat) (h : pos < s.size) : ((s[pos]'h).toNat < 128 → Utf8.decode s pos = ((s[pos]'h).toNat, 1)) ∧ (128 ≤ (s[pos]'h).toNat → 128 ≤ (Utf8.decode s pos).1) := by
  have hg : (s.get! pos).toNat = (s[pos]'h).toNat := by
    have : s.get! pos = s[pos]'h := by
      show s.data[pos]! = s.data[pos]'h
      rw [getElem!_pos s.data pos h]
    rw [this]
  have hlt := (s[pos]'h).toNat_lt
  constructor
  · intro h1
    unfold Utf8.decode
    simp only [Nat.add_zero, hg]
    rw [if_pos h1]
  · intro h1
    unfold Utf8.decode
    simp only [Nat.add_zero, hg]
    rw [if_neg (by omega)]
    split
    · split
      · assumption
      · show 128 ≤ Utf8.runeError; decide
    · split
      · split
        · rename_i h2; simp only [Bool.and_eq_true, decide_eq_true_eq] at h2; omega
        · show 128 ≤ Utf8.runeError; decide
      · split
        · split
          · rename_i h2; simp only [Bool.and_eq_true, decide_eq_true_eq] at h2; omega
          · show 128 ≤ Utf8.runeError; decide
        · show 128 ≤ Utf8.runeError; decide
theorem plainB_ascii (b : UInt8) (h : plainB b = true) : b.toNat < 128 := by
  refine Nat.lt_of_not_le fun h2 => ?_
  rw [plainB, plainR_beyond _ h2] at h
  cases h
theorem idx_all (s : ByteArray) (f : Nat) : ∀ pos, (∀ j (h : j < s.size), pos ≤ j → plainB (s[j]'h) = true) → Lib.idxFuncFrom (fun c => !plainR c) true s f pos = -1 := by
  induction f with
  | zero => intro pos _; rfl
  | succ f ih =>
    intro pos h
    unfold Lib.idxFuncFrom
    by_cases hp : pos < s.size
    · have hb := h pos hp (Nat.le_refl _)
      have hd := (decode_at s pos hp).1 (plainB_ascii _ hb)
      rw [if_pos hp, hd, if_neg (by simp; exact hb)]
      exact ih (pos + 1) fun j hj hle => h j hj (by omega)
    · rw [if_neg hp]
theorem idx_some (s : ByteArray) (f : Nat) : ∀ pos, s.size ≤ pos + f → (∃ j, ∃ h : j < s.size, pos ≤ j ∧ plainB (s[j]'h) = false) → 0 ≤ Lib.idxFuncFrom (fun c => !plainR c) true s f pos := by
  induction f with
  | zero =>
    intro pos hf ⟨j, hj, h1, _⟩
    omega
  | succ f ih =>
    intro pos hf ⟨j, hj, h1, h2⟩
    have hp : pos < s.size := by omega
    unfold Lib.idxFuncFrom
    rw [if_pos hp]
    by_cases hr : plainR (Utf8.decode s pos).1 = true
    · have hlt : (s[pos]'hp).toNat < 128 := by
        refine Nat.lt_of_not_le fun h3 => ?_
        rw [plainR_beyond _ ((decode_at s pos hp).2 h3)] at hr
        cases hr
      have hd := (decode_at s pos hp).1 hlt
      rw [hd] at hr ⊢
      rw [if_neg (by simp; exact hr)]
      refine ih (pos + 1) (by omega) ⟨j, hj, ?_, h2⟩
      refine Nat.lt_of_le_of_ne h1 fun e => ?_
      subst e
      rw [plainB] at h2
      simp only at hr
      rw [hr] at h2
      cases h2
    · rw [if_pos (by simpa using hr)]
      omega
/-- strings.IndexFunc with the negation of plain: below 0 just if all bytes are plain. -/
theorem idx_plain (l : List UInt8) : (l.all plainB = true → Lib.idxFunc (fun c => !plainR c) true (B l) = -1) ∧ (l.all plainB = false → 0 ≤ Lib.idxFunc (fun c => !plainR c) true (B l)) := by
  unfold Lib.idxFunc
  constructor
  · intro h
    refine idx_all (B l) _ 0 fun j hj _ => ?_
    have : (B l)[j]'hj ∈ l := by
      show l.toArray[j]'hj ∈ l
      simp
    exact List.all_eq_true.1 h _ this
  · intro h
    refine idx_some (B l) _ 0 (by omega) ?_
    obtain ⟨x, hx, hx2⟩ := List.all_eq_false.1 h
    obtain ⟨j, hj, rfl⟩ := List.getElem_of_mem hx
    exact ⟨j, by rw [size_B]; exact hj, Nat.zero_le _, (show plainB l[j] = false by simpa using hx2)⟩
end Go.Proofs.YtaocdnebglnkeaaDoor.P
