/- lex: unpaired, empty, trimmed over lists of bytes. -/
import Derived.Test.YtahejhkphceajaaDoorU
import Derived.Test.YtahejhkphceajaaDoorShelf
import Derived.WalkSmall
import Derived.WalkKit
import Derived.Lib.Hide
import Derived.Lib.TrimByte
set_option linter.unusedSimpArgs false
set_option linter.unusedVariables false
namespace Go.Proofs.YtahejhkphceajaaDoor.Ln
open Go.RowKit Go.Lib Go.Shelf Go.Proofs.YtahejhkphceajaaDoorW.PrintWords Go.Proofs.YtahejhkphceajaaDoor.U

abbrev Txt := List UInt8
def trimL (c : UInt8) (l : Txt) : Txt := Lib.trimLeftB l c
def trimR (c : UInt8) (l : Txt) : Txt := Lib.trimRightB l c
theorem trimL_len (c : UInt8) (l : Txt) : (trimL c l).length ≤ l.length := (List.dropWhile_sublist _).length_le
theorem trimR_len (c : UInt8) (l : Txt) : (trimR c l).length ≤ l.length := by
  unfold trimR Lib.trimRightB
  rw [List.length_reverse]
  have := (List.dropWhile_sublist (l := l.reverse) (· == c)).length_le
  rw [List.length_reverse] at this
  exact this
theorem TrimLeft_any (c : UInt8) (hc : c.toNat < 128) (l : Txt) (w : World) : Calls Tryd.prog 13 #[.string (B l), .string (B [c])] w fun e w' => e = .returned (.string (B (trimL c l))) ∧ w = w' := by
  refine (Tryd.strings_TrimLeft_one (B l) c hc w).mono ?_
  rintro e w' ⟨rfl, rfl⟩
  exact ⟨rfl, rfl⟩
theorem TrimRight_any (c : UInt8) (hc : c.toNat < 128) (l : Txt) (hl : l.length < 4611686018427387904) (w : World) : Calls Tryd.prog 26 #[.string (B l), .string (B [c])] w fun e w' => e = .returned (.string (B (trimR c l))) ∧ w = w' := by
  refine (Tryd.strings_TrimRight_one (B l) c hc w (by rw [size_B]; omega)).mono ?_
  rintro e w' ⟨rfl, rfl⟩
  exact ⟨rfl, rfl⟩
def oddL (l : Txt) : Bool := decide ((l.length - (trimR 36 l).length) % 2 = 1)
set_option maxRecDepth 100000 in
set_option maxHeartbeats 2000000 in
theorem unpaired_any (l : Txt) (hl : l.length < 4611686018427387904) (w : World) :
    Calls Tryd.prog 15 #[.string (B l)] w fun e w' => e = .returned (.bool (oddL l)) ∧ w = w' := by
  have hT := Lib.hid (TrimRight_any 36 (by decide) l hl)
  have h1 := trimR_len 36 l
  have s1 : (B l).size = l.length := size_B l
  have s2 : (B (trimR 36 l)).size = (trimR 36 l).length := size_B _
  have hO : Hid (oddL l = decide ((l.length - (trimR 36 l).length) % 2 = 1)) := rfl
  generalize trimR 36 l = t at *
  have hm : Hid (Int.tmod ((l.length : Int) - (t.length : Int)) 2 = (((l.length - t.length) % 2 : Nat) : Int)) := by
    show Int.tmod _ _ = _
    rw [Int.tmod_eq_emod_of_nonneg (by omega)]; omega
  go_enter Tryd.func15, Tryd.ntmps15
  go_wp2_with fail
  refine (hT.out _).mono ?_
  rintro e w' ⟨rfl, rfl⟩
  go_wp2_with fail
  go_ret
  refine ⟨?_, rfl⟩
  rw [hO.out]
  have e : (((l.length : Int) - (t.length : Int)) % 2 == 1) = decide ((l.length - t.length) % 2 = 1) := by
    rw [Bool.eq_iff_iff, beq_iff_eq, decide_eq_true_iff]; omega
  show Ending.returned (.bool (((l.length : Int) - (t.length : Int)) % 2 == 1)) = _
  rw [e]
def emptyL (l : Txt) : Bool := match trimL 32 l with | [] => true | c :: _ => c == 35
set_option maxRecDepth 100000 in
set_option maxHeartbeats 2000000 in
theorem empty_any (l : Txt) (w : World) :
    Calls Tryd.prog 14 #[.string (B l)] w fun e w' => e = .returned (.bool (emptyL l)) ∧ w = w' := by
  have hT := Lib.hid (TrimLeft_any 32 (by decide) l)
  have hE : Hid (emptyL l = match trimL 32 l with | [] => true | c :: _ => c == 35) := rfl
  generalize trimL 32 l = t at *
  cases t with
  | nil =>
    go_enter Tryd.func14, Tryd.ntmps14
    go_wp2_with fail
    refine (hT.out _).mono ?_
    rintro e w' ⟨rfl, rfl⟩
    go_wp2_with fail
    go_ret
    exact ⟨by rw [hE.out]; rfl, rfl⟩
  | cons c t =>
    have h0 : ∀ h : 0 < (B (c :: t)).size, (((B (c :: t))[0]'h).toNat : Int) = (c.toNat : Int) := fun h => rfl
    have hsB : (B (c :: t)).size = t.length + 1 := by rw [size_B]; rfl
    have hne2 : (B (c :: t)).toList.isEmpty = false := by rw [toList_B]; rfl
    have hcr := c.toNat_lt
    by_cases h35 : c = 35
    · subst h35
      go_enter Tryd.func14, Tryd.ntmps14
      go_wp2_with fail
      refine (hT.out _).mono ?_
      rintro e w' ⟨rfl, rfl⟩
      go_wp2_with fail
      go_ret
      exact ⟨by rw [hE.out]; rfl, rfl⟩
    · have n35 : ((c.toNat : Int) == 35) = false := by rw [beq_eq_false_iff_ne]; exact byte_ne (d := 35) h35
      have e35 : (c == 35) = false := by rw [beq_eq_false_iff_ne]; exact h35
      go_enter Tryd.func14, Tryd.ntmps14
      go_wp2_with fail
      refine (hT.out _).mono ?_
      rintro e w' ⟨rfl, rfl⟩
      go_wp2_with fail
      go_ret
      exact ⟨by rw [hE.out]; simp only [e35]; rfl, rfl⟩
def trimmedL (l : Txt) : Txt := if (trimR 32 (trimL 32 l)).length < (trimL 32 l).length ∧ oddL (trimR 32 (trimL 32 l)) = true then trimR 32 (trimL 32 l) ++ [32] else trimR 32 (trimL 32 l)
set_option maxRecDepth 100000 in
set_option maxHeartbeats 2000000 in
theorem trimmed_any (l : Txt) (hl : l.length < 4611686018427387904) (w : World) :
    Calls Tryd.prog 16 #[.string (B l)] w fun e w' => e = .returned (.string (B (trimmedL l))) ∧ w = w' := by
  have hT := Lib.hid (TrimLeft_any 32 (by decide) l)
  have h1 := trimL_len 32 l
  have hE : Hid (trimmedL l = if (trimR 32 (trimL 32 l)).length < (trimL 32 l).length ∧ oddL (trimR 32 (trimL 32 l)) = true then trimR 32 (trimL 32 l) ++ [32] else trimR 32 (trimL 32 l)) := rfl
  generalize trimL 32 l = s at *
  have hR := Lib.hid (TrimRight_any 32 (by decide) s (by omega))
  have h2 := trimR_len 32 s
  generalize trimR 32 s = t at *
  have hU := Lib.hid (unpaired_any t (by omega))
  have s1 : (B s).size = s.length := size_B s
  have s2 : (B t).size = t.length := size_B t
  by_cases hlt : t.length < s.length
  · have hd : decide ((t.length : Int) < (s.length : Int)) = true := by rw [decide_eq_true_iff]; omega
    cases ho : oddL t with
    | true =>
      have hE2 : Hid (trimmedL l = t ++ [32]) := by show _ = _; rw [hE.out, if_pos ⟨hlt, ho⟩]
      rw [ho] at hU
      have hap : B t ++ (⟨#[32]⟩ : ByteArray) = B (t ++ [32]) := by
        show B t ++ B [32] = _
        rw [B_append]
      have hAP := Lib.hid hap
      clear hap
      go_enter Tryd.func16, Tryd.ntmps16
      go_wp2_with fail
      refine (hT.out _).mono ?_
      rintro e w1 ⟨rfl, rfl⟩
      go_wp2_with fail
      refine (hR.out _).mono ?_
      rintro e w1 ⟨rfl, rfl⟩
      go_wp2_with fail
      refine (hU.out _).mono ?_
      rintro e w1 ⟨rfl, rfl⟩
      go_wp2_with fail
      go_ret
      refine ⟨?_, rfl⟩
      rw [hE2.out, ← hAP.out]; rfl
    | false =>
      have hE2 : Hid (trimmedL l = t) := by show _ = _; rw [hE.out, if_neg (by simp [ho])]
      rw [ho] at hU
      go_enter Tryd.func16, Tryd.ntmps16
      go_wp2_with fail
      refine (hT.out _).mono ?_
      rintro e w1 ⟨rfl, rfl⟩
      go_wp2_with fail
      refine (hR.out _).mono ?_
      rintro e w1 ⟨rfl, rfl⟩
      go_wp2_with fail
      refine (hU.out _).mono ?_
      rintro e w1 ⟨rfl, rfl⟩
      go_wp2_with fail
      go_ret
      exact ⟨by rw [hE2.out]; rfl, rfl⟩
  · have hd : decide ((t.length : Int) < (s.length : Int)) = false := by rw [decide_eq_false_iff_not]; omega
    have hE2 : Hid (trimmedL l = t) := by show _ = _; rw [hE.out, if_neg (by simp [hlt])]
    go_enter Tryd.func16, Tryd.ntmps16
    go_wp2_with fail
    refine (hT.out _).mono ?_
    rintro e w1 ⟨rfl, rfl⟩
    go_wp2_with fail
    refine (hR.out _).mono ?_
    rintro e w1 ⟨rfl, rfl⟩
    go_wp2_with fail
    go_ret
    exact ⟨by rw [hE2.out]; rfl, rfl⟩
end Go.Proofs.YtahejhkphceajaaDoor.Ln
