/- depfile.words walked: an output, names, and whether the line has the form. -/
import Derived.Test.YtaocdnebglnkeaaDoorDepLine
import Derived.Test.YtaocdnebglnkeaaDoorP0
set_option linter.unusedSimpArgs false
set_option linter.unusedVariables false
namespace Go.Proofs.YtaocdnebglnkeaaDoor.P
open Go.RowKit Go.Lib Go.Shelf Go.Proofs.YtaocdnebglnkeaaDoorW.PrintWords Go.Proofs.YtaocdnebglnkeaaDoorW.PrintLast Go.Proofs.YtaocdnebglnkeaaDoorW.PrintMore Go.Proofs.YtaocdnebglnkeaaDoor.U Go.Proofs.YtaocdnebglnkeaaDoor.Dp

def isBl (c : Nat) : Bool := c == 32
set_option maxRecDepth 100000 in
set_option maxHeartbeats 2000000 in
theorem blank_grows (w : World) : PredGrows Tryd.prog 28 #[] isBl w := by
  intro W x hx hb
  show Calls Tryd.prog _ _ W fun e w' => e = .returned (.bool (isBl x)) ∧ Below W.heap.size W w'
  have d1 : ((x : Int) == 32) = isBl x := by rw [isBl, Bool.eq_iff_iff, beq_iff_eq, beq_iff_eq]; omega
  go_enter Tryd.func28, Tryd.ntmps28
  go_wp2_with fail
  go_ret
  exact ⟨by first | rfl | simp [d1], Below.refl _ _⟩
theorem fields_any (l : List UInt8) (hl : l.length ≤ 1000000) (W : World) :
    Calls Tryd.prog 27 #[.string (B l), .func (.func 28) #[] #[]] W fun e w' => ∃ X, e = .returned (.slice (some ⟨X, 0, none⟩) (goFieldsP isBl (B l)).length (goFieldsP isBl (B l)).length) ∧ Kd.R Kd.string 9 w' W.heap.size (fun _ => True) (.slice (some ⟨X, 0, none⟩) (goFieldsP isBl (B l)).length (goFieldsP isBl (B l)).length) (goFieldsP isBl (B l)) ∧ Below W.heap.size W w' := by
  refine (Tryd.strings_FieldsFunc_grows 28 #[] (fun args w => by kernel_rfl) isBl (B l) W (by rw [size_B]; omega) (blank_grows W)).mono ?_
  rintro e w' ⟨X, rfl, hX, ho, hb⟩
  exact ⟨_, rfl, Kd.R_of_own (enc := Value.string) ho (fun _ _ => trivial), hb⟩
theorem cut_any (l : List UInt8) (hl : l.length ≤ 1000000) (W : World) (hm : ∃ m, W.cell? ⟨0, 0, none⟩ = some (.int .i64 m)) :
    Calls Tryd.prog 25 #[.string (B l), .string ⟨#[58]⟩] W fun e w' => e = .returned (.tuple #[.string (B (cut l [58]).1), .string (B (cut l [58]).2.1), .bool (cut l [58]).2.2]) ∧ Below W.heap.size W w' := by
  obtain ⟨m, hm⟩ := hm
  refine (Tryd.strings_Cut (B l) ⟨#[58]⟩ m W (by rw [size_B]; omega) hm).mono ?_
  rintro e w' ⟨rfl, n, rfl⟩
  exact ⟨rfl, below_drewNg W n⟩
theorem contains58_any (l : List UInt8) (W : World) :
    Calls Tryd.prog 26 #[.string (B l), .string ⟨#[58]⟩] W fun e w' => e = .returned (.bool (decide (0 ≤ indexByte l 58))) ∧ w' = W := Tryd.strings_Contains_one (B l) 58 W
theorem cut_len (l : List UInt8) : (cut l [58]).1.length ≤ l.length ∧ (cut l [58]).2.1.length ≤ l.length := by
  unfold cut
  split <;> simp <;> omega
theorem trimB_len (l : List UInt8) : (trimB l 32).length ≤ l.length := by
  unfold trimB trimLeftB
  refine Nat.le_trans (List.dropWhile_sublist _).length_le ?_
  unfold trimRightB
  rw [List.length_reverse]
  have := (List.dropWhile_sublist (l := l.reverse) (· == 32)).length_le
  rw [List.length_reverse] at this
  exact this
/-- Has a line the form: a colon, something ahead of it, no other one? -/
def formL (l : List UInt8) : Bool := (cut l [58]).2.2 && !(trimB (cut l [58]).1 32).isEmpty && !decide (0 ≤ indexByte (cut l [58]).2.1 58)
def outL (l : List UInt8) : List UInt8 := trimB (cut l [58]).1 32
def namesL (l : List UInt8) : List ByteArray := goFieldsP isBl (B (cut l [58]).2.1)
/-- What words answers. -/
def WordsPost (l : List UInt8) (w : World) (e : Ending) (w' : World) : Prop := Below w.heap.size w w' ∧
  ((formL l = true ∧ ∃ X, e = .returned (.tuple #[.string (B (outL l)), .slice (some ⟨X, 0, none⟩) (namesL l).length (namesL l).length, .bool true]) ∧ Kd.R Kd.string 9 w' w.heap.size (fun _ => True) (.slice (some ⟨X, 0, none⟩) (namesL l).length (namesL l).length) (namesL l)) ∨
   (formL l = false ∧ e = .returned (.tuple #[.string (B []), .slice none 0 0, .bool false])))
set_option maxRecDepth 100000 in
set_option maxHeartbeats 4000000 in
theorem words_any (l : List UInt8) (hl : l.length ≤ 1000000) (w : World) (hm : ∃ m, w.cell? ⟨0, 0, none⟩ = some (.int .i64 m)) :
    Calls Tryd.prog 14 #[.string (B l)] w (WordsPost l w) := by
  have hC := Lib.hid (cut_any l hl w hm)
  have hln := cut_len l
  have hF : Hid (formL l = ((cut l [58]).2.2 && !(trimB (cut l [58]).1 32).isEmpty && !decide (0 ≤ indexByte (cut l [58]).2.1 58))) := rfl
  have hO : Hid (outL l = trimB (cut l [58]).1 32) := rfl
  have hN : Hid (namesL l = goFieldsP isBl (B (cut l [58]).2.1)) := rfl
  have hT := Lib.hid (fun W => trim_any (cut l [58]).1 (by omega) W)
  have hCo := Lib.hid (fun W => contains58_any (cut l [58]).2.1 W)
  have hFi := Lib.hid (fun W => fields_any (cut l [58]).2.1 (by omega) W)
  clear hm
  generalize cut l [58] = c at *
  obtain ⟨a, b, is⟩ := c
  generalize trimB a 32 = t at *
  go_enter Tryd.func14, Tryd.ntmps14
  go_wp2_with fail
  refine hC.out.mono ?_
  rintro e w1 ⟨rfl, hb1⟩
  have hB1 := Lib.hid hb1
  clear hb1
  go_wp2_with fail
  refine (hT.out _).mono ?_
  rintro e w2 ⟨rfl, hw2⟩
  have hB2 : Hid (Below w.heap.size w w2) := by rcases hw2 with rfl | rfl; exact hB1.out; exact hB1.out.drew
  clear hw2
  cases is with
  | false =>
    have hf : Hid (formL l = false) := by show _ = _; rw [hF.out]; rfl
    go_wp2_with fail
    go_ret3
    exact ⟨hB2.out, .inr ⟨hf.out, rfl⟩⟩
  | true =>
    cases t with
    | nil =>
      have hf : Hid (formL l = false) := by show _ = _; rw [hF.out]; rfl
      go_wp2_with fail
      go_ret3
      exact ⟨hB2.out, .inr ⟨hf.out, rfl⟩⟩
    | cons t0 tr =>
      go_wp2_with fail
      refine (hCo.out _).mono ?_
      rintro e w3 ⟨rfl, rfl⟩
      cases hx : decide (0 ≤ indexByte b 58) with
      | true =>
        have hf : Hid (formL l = false) := by show _ = _; rw [hF.out]; simp [hx] <;> simpa using hx
        go_wp2_with fail
        go_ret3
        exact ⟨hB2.out, .inr ⟨hf.out, rfl⟩⟩
      | false =>
        have hf : Hid (formL l = true) := by show _ = _; rw [hF.out]; simp only [hx]; rfl
        go_wp2_with fail
        refine (hFi.out _).mono ?_
        rintro e w4 ⟨X, rfl, hR, hb4⟩
        have hR4 := Lib.hid (Kd.R_lower hR hB2.out.size)
        have hB4 := Lib.hid (hB2.out.trans (hb4.mono hB2.out.size))
        clear hR hb4
        go_wp2_with fail
        go_ret3
        refine ⟨hB4.out, .inl ⟨hf.out, X, ?_, ?_⟩⟩
        · rw [hO.out, hN.out]; rfl
        · rw [hN.out]; exact hR4.out
end Go.Proofs.YtaocdnebglnkeaaDoor.P
