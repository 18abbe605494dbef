/- scope.short, scope.Name, strings.Cut at one byte. -/
import Derived.Test.YtlpjhpdgjeiioaaIdx
import Derived.WalkSmall
import Derived.WalkKit
import Derived.Lib.Hide
set_option linter.unusedSimpArgs false
set_option linter.unusedVariables false
namespace Go.Proofs.Ytlpjhpdgjeiioaa.Sc
open Go.RowKit Go.Lib Go.Shelf Go.Proofs.YtlpjhpdgjeiioaaW.PrintWords Go.Proofs.Ytlpjhpdgjeiioaa.U Go.Proofs.Ytlpjhpdgjeiioaa.Idx

def shortR (c : Nat) : Bool := (decide (97 ≤ c) && decide (c ≤ 122)) || (decide (65 ≤ c) && decide (c ≤ 90)) || (decide (48 ≤ c) && decide (c ≤ 57)) || c == 95 || c == 45
theorem shortR_beyond (c : Nat) (h : 123 ≤ c) : shortR c = false := by
  have h2 : ¬ c ≤ 122 := by omega
  have h3 : ¬ c ≤ 90 := by omega
  have h4 : ¬ c ≤ 57 := by omega
  have h5 : ¬ c = 95 := by omega
  have h6 : ¬ c = 45 := by omega
  simp [shortR, h2, h3, h4, h5, h6]

set_option maxRecDepth 100000 in
set_option maxHeartbeats 4000000 in
theorem short_any (c : Nat) (w : World) :
    Calls Try.prog 30 #[.int .i32 (c : Int)] w fun e w' => e = .returned (.bool (shortR c)) ∧ w = w' := by
  have fin : ∀ b, shortR c = b → Calls Try.prog 30 #[.int .i32 (c : Int)] w (fun e w' => e = .returned (.bool b) ∧ w = w') → Calls Try.prog 30 #[.int .i32 (c : Int)] w fun e w' => e = .returned (.bool (shortR c)) ∧ w = w' := fun b hb h => by rw [hb]; exact h
  rcases (show ((97 ≤ c ∧ c ≤ 122) ∨ (65 ≤ c ∧ c ≤ 90) ∨ (48 ≤ c ∧ c ≤ 57)) ∨ c = 95 ∨ c = 45 ∨ ((c < 48 ∧ c ≠ 45) ∨ (57 < c ∧ c < 65) ∨ (90 < c ∧ c < 97 ∧ c ≠ 95) ∨ 122 < c) from by omega) with h | rfl | rfl | h
  · have e : shortR c = true := by
      unfold shortR
      rcases h with ⟨a, b⟩ | ⟨a, b⟩ | ⟨a, b⟩ <;> simp [a, b]
    refine fin true e ?_
    rcases h with ⟨a, b⟩ | ⟨a, b⟩ | ⟨a, b⟩
    all_goals
      go_enter Try.func30, Try.ntmps30
      go_wp2_with fail
      go_ret
      exact ⟨rfl, rfl⟩
  · refine fin true rfl ?_
    go_enter Try.func30, Try.ntmps30
    go_wp2_with fail
    go_ret
    exact ⟨rfl, rfl⟩
  · refine fin true rfl ?_
    go_enter Try.func30, Try.ntmps30
    go_wp2_with fail
    go_ret
    exact ⟨rfl, rfl⟩
  · have n95 : c ≠ 95 := by omega
    have n45 : c ≠ 45 := by omega
    have e : shortR c = false := by
      unfold shortR
      have h1 : ¬ (97 ≤ c ∧ c ≤ 122) := by omega
      have h2 : ¬ (65 ≤ c ∧ c ≤ 90) := by omega
      have h3 : ¬ (48 ≤ c ∧ c ≤ 57) := by omega
      rw [← Bool.decide_and, ← Bool.decide_and, ← Bool.decide_and, decide_eq_false h1, decide_eq_false h2, decide_eq_false h3]
      simp [n95, n45]
    refine fin false e ?_
    have b95 : ((c : Int) == 95) = false := by rw [beq_eq_false_iff_ne]; omega
    have b45 : ((c : Int) == 45) = false := by rw [beq_eq_false_iff_ne]; omega
    rcases h with ⟨a, _⟩ | ⟨a, b⟩ | ⟨a, b, _⟩ | a
    · have d97 : decide (97 ≤ (c : Int)) = false := by rw [decide_eq_false_iff_not]; omega
      have d65 : decide (65 ≤ (c : Int)) = false := by rw [decide_eq_false_iff_not]; omega
      have d48 : decide (48 ≤ (c : Int)) = false := by rw [decide_eq_false_iff_not]; omega
      go_enter Try.func30, Try.ntmps30
      go_wp2_with fail
      go_ret
      exact ⟨rfl, rfl⟩
    · have d97 : decide (97 ≤ (c : Int)) = false := by rw [decide_eq_false_iff_not]; omega
      have d65 : decide (65 ≤ (c : Int)) = false := by rw [decide_eq_false_iff_not]; omega
      have d48 : decide (48 ≤ (c : Int)) = true := by rw [decide_eq_true_iff]; omega
      have d57 : decide ((c : Int) ≤ 57) = false := by rw [decide_eq_false_iff_not]; omega
      go_enter Try.func30, Try.ntmps30
      go_wp2_with fail
      go_ret
      exact ⟨rfl, rfl⟩
    · have d97 : decide (97 ≤ (c : Int)) = false := by rw [decide_eq_false_iff_not]; omega
      have d65 : decide (65 ≤ (c : Int)) = true := by rw [decide_eq_true_iff]; omega
      have d90 : decide ((c : Int) ≤ 90) = false := by rw [decide_eq_false_iff_not]; omega
      have d48 : decide (48 ≤ (c : Int)) = true := by rw [decide_eq_true_iff]; omega
      have d57 : decide ((c : Int) ≤ 57) = false := by rw [decide_eq_false_iff_not]; omega
      go_enter Try.func30, Try.ntmps30
      go_wp2_with fail
      go_ret
      exact ⟨rfl, rfl⟩
    · have d97 : decide (97 ≤ (c : Int)) = true := by rw [decide_eq_true_iff]; omega
      have d122 : decide ((c : Int) ≤ 122) = false := by rw [decide_eq_false_iff_not]; omega
      have d65 : decide (65 ≤ (c : Int)) = true := by rw [decide_eq_true_iff]; omega
      have d90 : decide ((c : Int) ≤ 90) = false := by rw [decide_eq_false_iff_not]; omega
      have d48 : decide (48 ≤ (c : Int)) = true := by rw [decide_eq_true_iff]; omega
      have d57 : decide ((c : Int) ≤ 57) = false := by rw [decide_eq_false_iff_not]; omega
      go_enter Try.func30, Try.ntmps30
      go_wp2_with fail
      go_ret
      exact ⟨rfl, rfl⟩

def nameR (c : Nat) : Bool := shortR c || c == 46
theorem nameR_beyond (c : Nat) (h : 128 ≤ c) : nameR c = false := by
  rw [nameR, shortR_beyond c (by omega)]
  simp; omega
theorem shortR_beyond' (c : Nat) (h : 128 ≤ c) : shortR c = false := shortR_beyond c (by omega)

set_option maxRecDepth 100000 in
set_option maxHeartbeats 2000000 in
theorem notname_grows (w : World) : PredGrows Try.prog 29 #[] (fun c => !nameR c) w := by
  intro W x hx hb
  cases hs : shortR x with
  | true =>
    have e : (!nameR x) = false := by simp [nameR, hs]
    show Calls Try.prog _ _ W fun e w' => e = .returned (.bool (!nameR x)) ∧ Below W.heap.size W w'
    rw [e]
    go_enter Try.func29, Try.ntmps29
    go_wp2_with fail
    refine (short_any x _).mono ?_
    rw [hs]
    rintro e w' ⟨rfl, rfl⟩
    go_wp2_with fail
    go_ret
    exact ⟨rfl, Below.refl _ _⟩
  | false =>
    cases h46 : (x == 46) with
    | true =>
      have e : (!nameR x) = false := by simp [nameR, hs, h46]
      show Calls Try.prog _ _ W fun e w' => e = .returned (.bool (!nameR x)) ∧ Below W.heap.size W w'
      have h' : ((x : Int) != 46) = false := by
        have : x = 46 := by simpa using h46
        subst this; rfl
      rw [e]
      go_enter Try.func29, Try.ntmps29
      go_wp2_with fail
      refine (short_any x _).mono ?_
      rw [hs]
      rintro e w' ⟨rfl, rfl⟩
      go_wp2_with fail
      go_ret
      exact ⟨rfl, Below.refl _ _⟩
    | false =>
      have e : (!nameR x) = true := by simp [nameR, hs, h46]
      show Calls Try.prog _ _ W fun e w' => e = .returned (.bool (!nameR x)) ∧ Below W.heap.size W w'
      have h' : ((x : Int) != 46) = true := by
        have : x ≠ 46 := by simpa using h46
        rw [bne_iff_ne]; omega
      rw [e]
      go_enter Try.func29, Try.ntmps29
      go_wp2_with fail
      refine (short_any x _).mono ?_
      rw [hs]
      rintro e w' ⟨rfl, rfl⟩
      go_wp2_with fail
      go_ret
      exact ⟨rfl, Below.refl _ _⟩
set_option maxRecDepth 100000 in
set_option maxHeartbeats 2000000 in
theorem notshort_grows (w : World) : PredGrows Try.prog 37 #[] (fun c => !shortR c) w := by
  intro W x hx hb
  go_enter Try.func37, Try.ntmps37
  go_wp2_with fail
  refine (short_any x _).mono ?_
  rintro e w' ⟨rfl, rfl⟩
  go_wp2_with fail
  go_ret
  exact ⟨rfl, Below.refl _ _⟩

def shortB (b : UInt8) : Bool := shortR b.toNat
def nameB (b : UInt8) : Bool := nameR b.toNat
def nameL (l : List UInt8) : Bool := !l.isEmpty && l.all nameB
set_option maxRecDepth 100000 in
set_option maxHeartbeats 2000000 in
theorem Name_any (l : List UInt8) (w : World) :
    Calls Try.prog 18 #[.string (B l)] w fun e w' => e = .returned (.bool (nameL l)) ∧ Below w.heap.size w w' := by
  cases l with
  | nil =>
    go_enter Try.func18, Try.ntmps18
    go_wp2_with fail
    go_ret
    exact ⟨rfl, Below.refl _ _⟩
  | cons b l =>
    have hne : ((B (b :: l)).toList != []) = true := by rw [toList_B]; rfl
    have hne2 : (B (b :: l)).toList.isEmpty = false := by rw [toList_B]; rfl
    have hC := Lib.hid (Try.strings_ContainsFunc_grows 29 #[] (fun args w => by kernel_rfl) (fun c => !nameR c) (B (b :: l)) w (notname_grows w))
    have hi := idx_func nameR nameR_beyond (b :: l)
    have hd : decide ((0 : Int) ≤ Lib.idxFunc (fun c => !nameR c) true (B (b :: l))) = !nameL (b :: l) := by
      rw [hi, nameL]
      show _ = !(true && List.all (b :: l) (fun b => nameR b.toNat))
      cases (b :: l).all (fun b => nameR b.toNat) with
      | true => rfl
      | false => simp <;> omega
    rw [hd] at hC
    clear hi hd
    go_enter Try.func18, Try.ntmps18
    go_wp2_with fail
    refine hC.out.mono ?_
    rintro e w' ⟨rfl, hb⟩
    go_wp2_with fail
    go_ret
    exact ⟨by simp, hb⟩

/-- What Index tells at one byte. -/
theorem index_cases (l : List UInt8) (c : UInt8) : (Lib.indexByte l c = -1 ∧ c ∉ l) ∨ ∃ a r, l = a ++ c :: r ∧ c ∉ a ∧ Lib.indexByte l c = (a.length : Int) := by
  induction l with
  | nil => exact .inl ⟨rfl, by simp⟩
  | cons b l ih =>
    by_cases hb : b = c
    · exact .inr ⟨[], l, by simp [hb], by simp, by simp [Lib.indexByte, hb]⟩
    · rcases ih with ⟨h1, h2⟩ | ⟨a, r, rfl, h2, h3⟩
      · exact .inl ⟨by simp [Lib.indexByte, hb, h1], by simp [h2, Ne.symm hb]⟩
      · exact .inr ⟨b :: a, r, by simp, by simp [h2, Ne.symm hb], by simp [Lib.indexByte, hb, h3] <;> omega⟩
def cutL (c : UInt8) : List UInt8 → List UInt8 × List UInt8 × Bool
  | [] => ([], [], false)
  | b :: l => if b = c then ([], l, true) else (b :: (cutL c l).1, (cutL c l).2.1, (cutL c l).2.2)
theorem cutL_none (c : UInt8) (l : List UInt8) (h : c ∉ l) : cutL c l = (l, [], false) := by
  induction l with
  | nil => rfl
  | cons b l ih =>
    have hb : b ≠ c := fun e => h (by simp [e])
    rw [cutL, if_neg hb, ih (fun e => h (by simp [e]))]
theorem cutL_some (c : UInt8) (a r : List UInt8) (h : c ∉ a) : cutL c (a ++ c :: r) = (a, r, true) := by
  induction a with
  | nil => simp [cutL]
  | cons b a ih =>
    have hb : b ≠ c := fun e => h (by simp [e])
    rw [List.cons_append, cutL, if_neg hb, ih (fun e => h (by simp [e]))]
set_option maxRecDepth 100000 in
set_option maxHeartbeats 2000000 in
theorem lcut_any (c : UInt8) (l : List UInt8) (hl : l.length < 4611686018427387904) (w : World) :
    Calls Try.prog 33 #[.string (B l), .string (B [c])] w fun e w' => e = .returned (.tuple #[.string (B (cutL c l).1), .string (B (cutL c l).2.1), .bool (cutL c l).2.2]) ∧ Below w.heap.size w w' := by
  have hI := Lib.hid (Try.stringslite_Index_one (B l) c w)
  rcases index_cases l c with ⟨h1, h2⟩ | ⟨a, r, rfl, h2, h3⟩
  · rw [data_B, h1] at hI
    rw [cutL_none c l h2]
    go_enter Try.func33, Try.ntmps33
    go_wp2_with fail
    refine hI.out.mono ?_
    rintro e w' ⟨rfl, rfl⟩
    go_wp2_with fail
    exact bodyPost_ret (v := .tuple #[.string (B l), .string (B []), .bool false]) (by simp [results, Try.results33, go_sem]) rfl ⟨rfl, Below.refl _ _⟩
  · rw [data_B, h3] at hI
    rw [cutL_some c a r h2]
    rw [List.length_append, List.length_cons] at hl
    have hs : (B (a ++ c :: r)).size = a.length + (r.length + 1) := by rw [size_B]; simp
    have s1 : (B [c]).size = 1 := rfl
    have hw := Aside0.mk (wrap_succ a.length (by omega))
    have e1 : (B (a ++ c :: r)).extract 0 a.length = B a := by rw [extract_B]; simp
    have e2 : (B (a ++ c :: r)).extract (a.length + 1) (a.length + (r.length + 1)) = B r := by
      rw [extract_B]
      have : a ++ c :: r = (a ++ [c]) ++ r := by simp
      rw [List.take_of_length_le (by simp), this, List.drop_left' (by simp)]
    have a1 : ((a.length : Int) ≤ ((a.length + (r.length + 1) : Nat) : Int)) = True := eq_true (by omega)
    have a2 : (((a.length + 1 : Nat) : Int) ≤ ((a.length + (r.length + 1) : Nat) : Int)) = True := eq_true (by omega)
    go_enter Try.func33, Try.ntmps33
    go_wp2_with fail
    refine hI.out.mono ?_
    rintro e w' ⟨rfl, rfl⟩
    go_wp2_with fail
    go_region
    go_wp2_with fail
    exact bodyPost_ret (v := .tuple #[.string (B a), .string (B r), .bool true]) (by simp [results, Try.results33, go_sem]) rfl ⟨rfl, (Below.refl _ _).drew⟩
set_option maxRecDepth 100000 in
set_option maxHeartbeats 2000000 in
theorem cut_any (c : UInt8) (l : List UInt8) (hl : l.length < 4611686018427387904) (w : World) :
    Calls Try.prog 22 #[.string (B l), .string (B [c])] w fun e w' => e = .returned (.tuple #[.string (B (cutL c l).1), .string (B (cutL c l).2.1), .bool (cutL c l).2.2]) ∧ Below w.heap.size w w' := by
  have hI := Lib.hid (lcut_any c l hl w)
  go_enter Try.func22, Try.ntmps22
  go_wp2_with fail
  refine hI.out.mono ?_
  rintro e w' ⟨rfl, hb⟩
  go_wp2_with fail
  exact bodyPost_ret (v := .tuple #[.string (B (cutL c l).1), .string (B (cutL c l).2.1), .bool (cutL c l).2.2]) (by simp [results, Try.results22, go_sem]) rfl ⟨rfl, hb⟩
end Go.Proofs.Ytlpjhpdgjeiioaa.Sc
