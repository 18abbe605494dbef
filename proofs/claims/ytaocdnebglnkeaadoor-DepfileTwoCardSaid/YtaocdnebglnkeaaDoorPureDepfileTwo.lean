/- DepfileTwo: a text that tells something tells nothing with a second line behind it, with a second colon, with a name that is none; for every text (of more than 1000 bytes the law says nothing). -/
import Derived.Test.YtaocdnebglnkeaaDoorDepLaw
import Derived.Test.YtaocdnebglnkeaaDoorPBellowslaw14DepfileTwo0
set_option linter.unusedSimpArgs false
set_option linter.unusedVariables false
namespace Go.Proofs.YtaocdnebglnkeaaDoor.Pure
open Go.RowKit Go.Lib Go.Proofs.YtaocdnebglnkeaaDoor.P Go.Proofs.YtaocdnebglnkeaaDoorW.PrintWords Go.Proofs.YtaocdnebglnkeaaDoorW.PrintLast Go.Proofs.YtaocdnebglnkeaaDoor.U Go.Proofs.YtaocdnebglnkeaaDoor.Dp

namespace DepfileTwo
/-- A text that tells something does not end with a backslash. -/
theorem no_bs {text : Txt} (h : (parseL text).2.2 = 0) : text.getLast? ≠ some 92 := by
  intro hl
  obtain ⟨t, rfl⟩ : ∃ t, text = t ++ [92] := by
    rcases List.eq_nil_or_concat text with rfl | ⟨t, b, rfl⟩
    · cases hl
    · rw [List.concat_eq_append, List.getLast?_concat] at hl
      exact ⟨t, by rw [List.concat_eq_append, Option.some.inj hl]⟩
  obtain ⟨_, s, a, r, ds, hF, rfl, h2, h3, h4, h5, h6, _⟩ := parse_ok h
  rw [rep2_bs] at hF
  obtain ⟨init, last, e1, e2⟩ := splitK_last (rep2 t)
  rw [e2 [92] (by decide), lineF_append] at hF
  have hbl : blankL (last ++ [92]) = false := blankL_no (b := 92) (by simp) (by decide)
  have hs : a ++ 58 :: r = last ++ [92] := by
    cases hi : lineF init none with
    | none => rw [hi] at hF; cases hF
    | some st =>
      rw [hi, Option.bind_some] at hF
      cases st with
      | none => simp [lineF, hbl] at hF; exact hF.symm
      | some x => simp [lineF, hbl] at hF
  have hr : (92 : UInt8) ∈ r := by
    rcases List.eq_nil_or_concat r with rfl | ⟨r', b, rfl⟩
    · have := congrArg List.getLast? hs
      rw [List.getLast?_concat, List.getLast?_concat] at this
      exact absurd (Option.some.inj this) (by decide)
    · have := congrArg List.getLast? hs
      rw [List.concat_eq_append, show a ++ 58 :: (r' ++ [b]) = (a ++ 58 :: r') ++ [b] by simp, List.getLast?_concat, List.getLast?_concat] at this
      rw [List.concat_eq_append, Option.some.inj this]; simp
  obtain ⟨p, hp, hm⟩ := fields_mem (c := 92) (by decide) r [] (by simpa using hr)
  have hc := deps_all _ _ _ h6 p hp
  have := List.all_eq_true.1 (clean_plain hc) 92 hm
  exact absurd this (by decide +kernel)
/-- Behind a text that tells something: a text y without an end of line, whose piece is not all blanks, that spoils the rest. -/
theorem spoil {text y : Txt} (h : (parseL text).2.2 = 0) (hy10 : (10 : UInt8) ∉ y) (hy : y.head? = some 32) (hrep : rep2 y = y) (b : UInt8) (hb : b ∈ y) (hb32 : b ≠ 32)
    (hsp : ∀ r, (58 : UInt8) ∉ r ++ y → ∃ p ∈ Fld.fieldsT (r ++ y), (cleanL p).2 ≠ 0) : (parseL (text ++ y)).2.2 = 14 := by
  obtain ⟨_, s, a, r, ds, hF, rfl, h2, h3, h4, h5, h6, _⟩ := parse_ok h
  obtain ⟨init, last, e1, e2⟩ := splitK_last (rep2 text)
  have hR : rep2 (text ++ y) = rep2 text ++ y := by rw [rep2_app text y (.inr (by rw [hy]; decide)), hrep]
  have hbl : blankL (last ++ y) = false := blankL_no (b := b) (by simp [hb]) hb32
  rw [e1, lineF_append] at hF
  cases hi : lineF init none with
  | none => rw [hi] at hF; cases hF
  | some st =>
    rw [hi, Option.bind_some] at hF
    cases st with
    | some x =>
      refine parse_of_line (o := none) ?_ (fun s hs => by cases hs)
      rw [hR, e2 y hy10, lineF_append, hi, Option.bind_some]
      simp [lineF, hbl]
    | none =>
      refine parse_of_line (o := some (some (last ++ y))) ?_ ?_
      · rw [hR, e2 y hy10, lineF_append, hi, Option.bind_some]
        simp [lineF, hbl]
      · intro s hs hf
        obtain rfl : last ++ y = s := Option.some.inj (Option.some.inj hs)
        have hlast : last = a ++ 58 :: r := by
          cases hbb : blankL last with
          | true => simp [lineF, hbb] at hF
          | false => simpa [lineF, hbb] using hF
        obtain ⟨a', r', g1, g2, g3, _, _, g6⟩ := (form_iff _).1 hf
        have hcut : cut (last ++ y) [58] = (a, r ++ y, true) := by
          rw [hlast, List.append_assoc, List.cons_append, cut_at a _ h2]
        have hcut' : cut (last ++ y) [58] = (a', r', true) := by rw [g1, cut_at a' _ g2]
        have hr' : r' = r ++ y := by rw [hcut] at hcut'; exact (congrArg (·.2.1) hcut').symm
        subst hr'
        obtain ⟨p, hp, hc⟩ := hsp r g3
        rw [g6]
        exact deps_bad _ p hp hc []
end DepfileTwo
open DepfileTwo in
theorem DepfileTwo : bellowslaw14_DepfileTwo.Pure := by
  intro a0 _
  obtain ⟨text, rfl⟩ := B_surj a0
  refine Ev.rounds ?_
  by_cases hl : ((B text).size : Int) > 1000
  · simp only [bellowslaw14_DepfileTwo.f, if_pos hl]; exact Ev.now _
  · have hs : text.length ≤ 1000 := by rw [size_B] at hl; omega
    have z1 : (B text).size + 2 ≤ 9223372036854775807 := by rw [size_B]; omega
    have z2 : (B text).size + 5 ≤ 9223372036854775807 := by rw [size_B]; omega
    have z3 : (B text).size + 3 ≤ 9223372036854775807 := by rw [size_B]; omega
    have e1 : B text ++ (⟨#[10, 120]⟩ : ByteArray) = B (text ++ [10, 120]) := B_append text [10, 120]
    have e2 : B text ++ (⟨#[32, 121, 58, 32, 122]⟩ : ByteArray) = B (text ++ [32, 121, 58, 32, 122]) := B_append text [32, 121, 58, 32, 122]
    have e3 : B text ++ (⟨#[32, 47, 121]⟩ : ByteArray) = B (text ++ [32, 47, 121]) := B_append text [32, 47, 121]
    have p1 : depfile_Parse.f (⟨#[]⟩ : ByteArray) = some (B (parseL []).1, (parseL []).2.1.map B, (parseL []).2.2) := parse_f []
    have p2 : depfile_Parse.f (⟨#[97, 32, 98]⟩ : ByteArray) = some (B (parseL [97, 32, 98]).1, (parseL [97, 32, 98]).2.1.map B, (parseL [97, 32, 98]).2.2) := parse_f [97, 32, 98]
    have p3 : depfile_Parse.f (⟨#[58, 32, 97]⟩ : ByteArray) = some (B (parseL [58, 32, 97]).1, (parseL [58, 32, 97]).2.1.map B, (parseL [58, 32, 97]).2.2) := parse_f [58, 32, 97]
    have q1 : (parseL []).2.2 = 14 := by decide +kernel
    have q2 : (parseL [97, 32, 98]).2.2 = 14 := by decide +kernel
    have q3 : (parseL [58, 32, 97]).2.2 = 14 := by decide +kernel
    simp only [bellowslaw14_DepfileTwo.f, if_neg hl, parse_f, Option.bind_some, if_pos z1, if_pos z2, if_pos z3, e1, e2, e3, p1, p2, p3, q1, q2, q3, if_true]
    by_cases h0 : (parseL text).2.2 = 0
    · have hbs := no_bs h0
      have t1 : (parseL (text ++ [10, 120])).2.2 = 14 := by
        obtain ⟨_, s, a, r, ds, hF, _⟩ := parse_ok h0
        refine parse_of_line (o := none) ?_ (fun s hs => by cases hs)
        have e : rep2 (text ++ [10, 120]) = rep2 text ++ 10 :: [120] := by rw [rep2_app text _ (.inl hbs)]; rfl
        rw [e, splitK_app10, lineF_append, hF, Option.bind_some]
        have hk : splitK 10 0 [120] = [[120]] := by decide
        have hb : blankL [120] = false := by decide +kernel
        rw [hk]
        simp [lineF, hb]
      have t2 : (parseL (text ++ [32, 121, 58, 32, 122])).2.2 = 14 :=
        spoil h0 (by decide) rfl (by decide) 121 (by decide) (by decide) (fun r hr => absurd (by simp) hr)
      have t3 : (parseL (text ++ [32, 47, 121])).2.2 = 14 :=
        spoil h0 (by decide) rfl (by decide) 121 (by decide) (by decide) (fun r _ => ⟨[47, 121], by
          show [47, 121] ∈ Fld.fieldsGo [] (r ++ 32 :: [47, 121])
          rw [fields_at]
          have : Fld.fieldsGo [] [47, 121] = [[47, 121]] := by decide
          rw [this]; simp, by decide +kernel⟩)
      simp only [h0, if_true, t1, t2, t3]
      exact Ev.bind awake_true (Ev.now _)
    · simp only [if_neg h0]
      exact Ev.bind awake_true (Ev.now _)
end Go.Proofs.YtaocdnebglnkeaaDoor.Pure
