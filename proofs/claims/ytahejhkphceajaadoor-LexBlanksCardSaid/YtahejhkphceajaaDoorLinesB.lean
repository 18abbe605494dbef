/- strings.Split at one byte; the literal that tells a wrong byte. -/
import Derived.Test.YtahejhkphceajaaDoorLinesA
import Derived.Test.YtahejhkphceajaaDoorIdx
import Derived.Lib.Split
import Derived.Lib.SplitLaws
import Derived.Lib.IndexBytes
set_option linter.unusedSimpArgs false
set_option linter.unusedVariables false
namespace Go.Proofs.YtahejhkphceajaaDoor.Ln
open Go.RowKit Go.Lib Go.Shelf Go.Proofs.YtahejhkphceajaaDoorW.PrintWords Go.Proofs.YtahejhkphceajaaDoor.U Go.Proofs.YtahejhkphceajaaDoor.Idx

/-- A text at a byte. -/
def spl (c : UInt8) : Txt → List Txt
  | [] => [[]]
  | b :: l => if b = c then [] :: spl c l else match spl c l with
    | [] => [[b]]
    | p :: ps => (b :: p) :: ps
theorem spl_ne (c : UInt8) (l : Txt) : spl c l ≠ [] := by
  cases l with
  | nil => simp [spl]
  | cons b l =>
    unfold spl; split
    · simp
    · split <;> simp
theorem spl_none (c : UInt8) (l : Txt) (h : c ∉ l) : spl c l = [l] := by
  induction l with
  | nil => rfl
  | cons b l ih =>
    have h1 : b ≠ c := fun e => h (by simp [e])
    rw [spl, if_neg h1, ih (fun e => h (by simp [e]))]
theorem spl_at (c : UInt8) (a l : Txt) (h : c ∉ a) : spl c (a ++ c :: l) = a :: spl c l := by
  induction a with
  | nil => simp [spl]
  | cons b a ih =>
    have h1 : b ≠ c := fun e => h (by simp [e])
    rw [List.cons_append, spl, if_neg h1, ih (fun e => h (by simp [e]))]
theorem idx_cases (l : Txt) (c : UInt8) : (Lib.indexByte l c = -1 ∧ c ∉ l) ∨ ∃ a r, l = a ++ c :: r ∧ c ∉ a ∧ Lib.indexByte l c = (a.length : Int) := by
  induction l with
  | nil => exact .inl ⟨rfl, by simp⟩
  | cons b l ih =>
    by_cases hb : b = c
    · exact .inr ⟨[], l, by simp [hb], by simp, by simp [Lib.indexByte, hb]⟩
    · rcases ih with ⟨h1, h2⟩ | ⟨a, r, rfl, h2, h3⟩
      · exact .inl ⟨by simp [Lib.indexByte, hb, h1], by simp [h2, Ne.symm hb]⟩
      · exact .inr ⟨b :: a, r, by simp, by simp [h2, Ne.symm hb], by simp [Lib.indexByte, hb, h3] <;> omega⟩
theorem splitK_spl (c : UInt8) (n : Nat) : ∀ l : Txt, l.length ≤ n → Lib.splitK [c] 0 (l.count c) l = spl c l := by
  induction n with
  | zero =>
    intro l hl
    obtain rfl := List.length_eq_zero_iff.1 (Nat.le_zero.1 hl)
    rfl
  | succ n ih =>
    intro l hl
    rcases idx_cases l c with ⟨_, h2⟩ | ⟨a, r, rfl, h2, h3⟩
    · rw [List.count_eq_zero.2 h2, spl_none c l h2]; rfl
    · have hc : (a ++ c :: r).count c = r.count c + 1 := by rw [List.count_append, List.count_cons_self, List.count_eq_zero.2 h2]; omega
      have hi : Lib.index (a ++ c :: r) [c] = (a.length : Int) := by rw [Lib.index_one, h3]
      have hne : ((a.length : Int) == -1) = false := by rw [beq_eq_false_iff_ne]; omega
      rw [List.length_append, List.length_cons] at hl
      rw [hc, Lib.splitK, hi, hne, spl_at c a r h2]
      have hd : (a ++ c :: r).drop (a.length + 1) = r := by rw [show a ++ c :: r = (a ++ [c]) ++ r by simp, List.drop_left' (by simp)]
      simp only [Bool.false_eq_true, if_false, Int.toNat_natCast, Nat.add_zero, List.length_singleton, List.take_left, hd, ih r (by omega)]
theorem splitB_spl (c : UInt8) (l : Txt) : Lib.splitB (B [c]) 0 (l.count c) (B l) = (spl c l).map B := by
  have h := Lib.splitB_data (B [c]) 0 (l.count c) (B l)
  rw [show (B [c]).data.toList = [c] from rfl, data_B, splitK_spl c l.length l (Nat.le_refl _)] at h
  have h2 := congrArg (List.map B) h
  rw [List.map_map] at h2
  rw [← h2]
  conv => lhs; rw [← List.map_id (Lib.splitB (B [c]) 0 (l.count c) (B l))]
  apply List.map_congr_left
  intro s _
  exact B_of s
theorem spl_len (c : UInt8) (l : Txt) : (spl c l).length = l.count c + 1 := by
  induction l with
  | nil => rfl
  | cons b l ih =>
    rw [spl]
    by_cases hb : b = c
    · subst hb; rw [if_pos rfl, List.length_cons, ih, List.count_cons_self]
    · rw [if_neg hb, List.count_cons_of_ne hb, ← ih]
      cases h : spl c l with
      | nil => exact absurd h (spl_ne c l)
      | cons p ps => rfl
theorem Split_any (c : UInt8) (l : Txt) (hl : l.length < 4294967281) (w : World) (hm : ∃ m, w.cell? ⟨0, 0, none⟩ = some (.int .i64 m)) :
    Calls Tryd.prog 11 #[.string (B l), .string (B [c])] w fun e w' =>
      e = .returned (.slice (some ⟨w.heap.size, 0, none⟩) (spl c l).length (spl c l).length) ∧ w.alloc (.cells (((spl c l).map B).map Value.string).toArray 9) = w' := by
  obtain ⟨m, hm⟩ := hm
  have hc : Lib.countB (B l) (B [c]) = l.count c := Lib.count_one c l
  refine (Tryd.strings_Split (B l) (B [c]) m w (by rw [size_B]; exact hl) hm (by rw [size_B]; exact Nat.le_refl 1)).mono ?_
  rw [hc, splitB_spl, ← spl_len]
  rintro e w' ⟨rfl, rfl⟩
  exact ⟨rfl, rfl⟩

def okR (c : Nat) : Bool := decide (32 ≤ c) && decide (c < 127)
theorem okR_beyond (c : Nat) (h : 128 ≤ c) : okR c = false := by
  have : ¬ c < 127 := by omega
  simp [okR, this]
set_option maxRecDepth 100000 in
set_option maxHeartbeats 2000000 in
theorem bad_grows (w : World) : PredGrows Tryd.prog 10 #[] (fun c => !okR c) w := by
  intro W x hx hb
  show Calls Tryd.prog _ _ W fun e w' => e = .returned (.bool (!okR x)) ∧ Below W.heap.size W w'
  rcases (show x < 32 ∨ (32 ≤ x ∧ x < 127) ∨ 127 ≤ x by omega) with h | ⟨h1, h2⟩ | h
  · have e : (!okR x) = true := by
      have : ¬ 32 ≤ x := by omega
      simp [okR, this]
    have d1 : decide ((x : Int) < 32) = true := by rw [decide_eq_true_iff]; omega
    rw [e]
    go_enter Tryd.func10, Tryd.ntmps10
    go_wp2_with fail
    go_ret
    exact ⟨rfl, Below.refl _ _⟩
  · have e : (!okR x) = false := by simp [okR, h1, h2]
    have d1 : decide ((x : Int) < 32) = false := by rw [decide_eq_false_iff_not]; omega
    have d2 : decide (127 ≤ (x : Int)) = false := by rw [decide_eq_false_iff_not]; omega
    rw [e]
    go_enter Tryd.func10, Tryd.ntmps10
    go_wp2_with fail
    go_ret
    exact ⟨rfl, Below.refl _ _⟩
  · have e : (!okR x) = true := by
      have : ¬ x < 127 := by omega
      simp [okR, this]
    have d1 : decide ((x : Int) < 32) = false := by rw [decide_eq_false_iff_not]; omega
    have d2 : decide (127 ≤ (x : Int)) = true := by rw [decide_eq_true_iff]; omega
    rw [e]
    go_enter Tryd.func10, Tryd.ntmps10
    go_wp2_with fail
    go_ret
    exact ⟨rfl, Below.refl _ _⟩
def okL (l : Txt) : Bool := l.all fun b => okR b.toNat
theorem bad_any (l : Txt) (w : World) :
    Calls Tryd.prog 12 #[.string (B l), .func (.func 10) #[] #[]] w fun e w' => e = .returned (.bool (!okL l)) ∧ Below w.heap.size w w' := by
  have h := Tryd.strings_ContainsFunc_grows 10 #[] (fun args w => by kernel_rfl) (fun c => !okR c) (B l) w (bad_grows w)
  have hi := idx_func okR okR_beyond l
  have hd : decide ((0 : Int) ≤ Lib.idxFunc (fun c => !okR c) true (B l)) = !okL l := by
    rw [hi, okL]
    cases l.all (fun b => okR b.toNat) with
    | true => rfl
    | false => simp <;> omega
  rw [hd] at h
  exact h
end Go.Proofs.YtahejhkphceajaaDoor.Ln
