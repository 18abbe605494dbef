/- What lex.sign computes. -/
import Derived.Test.YtahejhkphceajaaDoorLex
import Derived.Test.YtahejhkphceajaaDoorPLexSign0
set_option linter.unusedSimpArgs false
set_option linter.unusedVariables false
namespace Go.Proofs.YtahejhkphceajaaDoor.P
open Go.RowKit Go.Proofs.YtahejhkphceajaaDoorW.PrintWords Go.Proofs.YtahejhkphceajaaDoorW.PrintLast Go.Proofs.YtahejhkphceajaaDoorW.PrintMore Go.Proofs.YtahejhkphceajaaDoor.U Go.Proofs.YtahejhkphceajaaDoor.Lex

theorem hasPrefix_B (a b : List UInt8) : strings_HasPrefix.f (B a) (B b) = some (decide (b <+: a)) := by
  unfold strings_HasPrefix.f stringslite_HasPrefix.f
  rw [size_B, size_B]
  by_cases h : b.length ≤ a.length
  · rw [if_pos (by omega), if_pos (by omega), if_pos (by omega)]
    simp only [Option.bind_some, Int.toNat_natCast, Option.some.injEq]
    rw [extract_B, toList_B, toList_B, List.drop_zero, Bool.eq_iff_iff, beq_iff_eq, decide_eq_true_iff, List.prefix_iff_eq_take]
    exact eq_comm
  · rw [if_neg (by omega)]
    simp only [Option.bind_some, Option.some.injEq]
    have : ¬ b <+: a := fun hp => h hp.length_le
    simp [this]
theorem sign_B (l : List UInt8) : lex_sign.f 4 (B l) = some (B (signL l)) := by
  have e1 : (⟨#[124, 124]⟩ : ByteArray) = B [124, 124] := rfl
  have e2 : (⟨#[124]⟩ : ByteArray) = B [124] := rfl
  have e3 : (⟨#[58]⟩ : ByteArray) = B [58] := rfl
  have e4 : (⟨#[]⟩ : ByteArray) = B [] := rfl
  have w1 : wrap64 (0 + 1) = 1 := wrap_id _ (by omega) (by omega)
  have w2 : wrap64 (1 + 1) = 2 := wrap_id _ (by omega) (by omega)
  have w3 : wrap64 (2 + 1) = 3 := wrap_id _ (by omega) (by omega)
  simp only [lex_sign.f, lex_sign.l0, e1, e2, e3, e4, Option.bind_some, List.length_cons, List.length_nil, rdOf, hasPrefix_B, w1, w2, w3]
  simp only [Int.toNat_zero, Int.toNat_one, List.getD_cons_zero, List.getD_cons_succ, show (2 : Int).toNat = 2 from rfl, hasPrefix_B, Option.bind_some]
  match l with
  | [] => simp [signL]
  | [c] => simp [signL, List.cons_prefix_cons]; by_cases h1 : c = 124
           · subst h1; simp
           · by_cases h2 : c = 58
             · subst h2; simp
             · simp [h1, h2, Ne.symm h1, Ne.symm h2, eq_comm]
  | c :: d :: r =>
    simp [signL, List.cons_prefix_cons]
    by_cases h1 : c = 124
    · subst h1
      by_cases h3 : d = 124
      · subst h3; simp
      · simp [h3, Ne.symm h3]
    · by_cases h2 : c = 58
      · subst h2; simp
      · simp [h1, h2, Ne.symm h1, Ne.symm h2]
end Go.Proofs.YtahejhkphceajaaDoor.P
