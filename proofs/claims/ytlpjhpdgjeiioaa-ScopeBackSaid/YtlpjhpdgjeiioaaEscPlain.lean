/- What scope.Escape computes, and that it is expanded to the text. No program in sight. -/
import Derived.Test.YtlpjhpdgjeiioaaScopeE
set_option linter.unusedSimpArgs false
set_option linter.unusedVariables false
namespace Go.Proofs.Ytlpjhpdgjeiioaa.Sc
open Go.RowKit Go.Lib Go.Shelf Go.Proofs.YtlpjhpdgjeiioaaW.PrintWords Go.Proofs.Ytlpjhpdgjeiioaa.U Go.Proofs.Ytlpjhpdgjeiioaa.Idx

def escB (c : UInt8) : Bool := escR c.toNat
def escL : Txt → Txt
  | [] => []
  | c :: r => if escB c = true then 36 :: c :: escL r else c :: escL r
theorem escL_app (a b : Txt) : escL (a ++ b) = escL a ++ escL b := by
  induction a with
  | nil => rfl
  | cons c a ih =>
    rw [List.cons_append, escL, escL, ih]
    split <;> rfl
theorem escL_one (c : UInt8) : escL [c] = if escB c = true then [36, c] else [c] := rfl
theorem escL_len (s : Txt) : (escL s).length = s.length + s.countP escB := by
  induction s with
  | nil => rfl
  | cons c s ih =>
    rw [escL, List.countP_cons]
    split <;> simp [ih] <;> omega
theorem escL_none (s : Txt) (h : s.countP escB = 0) : escL s = s := by
  induction s with
  | nil => rfl
  | cons c s ih =>
    rw [List.countP_cons] at h
    rw [escL]
    by_cases hc : escB c = true
    · rw [if_pos hc] at h; omega
    · rw [if_neg hc, ih (by omega)]
theorem escB_all : ∀ n : Nat, n < 256 → escR n = (n == 36 || n == 32 || n == 58 || n == 124) := by decide +kernel
theorem escB_iff (c : UInt8) : escB c = true ↔ c = 124 ∨ c = 58 ∨ c = 32 ∨ c = 36 := by
  unfold escB
  rw [escB_all _ c.toNat_lt]
  have h : ∀ d : UInt8, (c.toNat == d.toNat) = true ↔ c = d := fun d => by rw [beq_iff_eq]; exact UInt8.toNat_inj
  simp only [Bool.or_eq_true]
  rw [show (36 : Nat) = (36 : UInt8).toNat from rfl, show (32 : Nat) = (32 : UInt8).toNat from rfl, show (58 : Nat) = (58 : UInt8).toNat from rfl, show (124 : Nat) = (124 : UInt8).toNat from rfl, h, h, h, h]
  constructor
  · rintro (((h | h) | h) | h) <;> simp [h]
  · rintro (h | h | h | h) <;> simp [h]
theorem count4 (s : Txt) : s.countP escB = s.count 124 + s.count 58 + s.count 32 + s.count 36 := by
  induction s with
  | nil => rfl
  | cons c s ih =>
    rw [List.countP_cons, List.count_cons, List.count_cons, List.count_cons, List.count_cons, ih]
    have h := escB_iff c
    by_cases h1 : c = 124
    · subst h1; rw [if_pos (by decide)]; simp; omega
    · by_cases h2 : c = 58
      · subst h2; rw [if_pos (by decide)]; simp; omega
      · by_cases h3 : c = 32
        · subst h3; rw [if_pos (by decide)]; simp; omega
        · by_cases h4 : c = 36
          · subst h4; rw [if_pos (by decide)]; simp; omega
          · have : ¬ escB c = true := fun e => by rcases h.1 e with e | e | e | e <;> contradiction
            rw [if_neg this]
            simp [h1, h2, h3, h4]
theorem E_esc (L : List Lev) : ∀ (s out : Txt), out.length + s.length ≤ 16384 → E L (escL s) out false = some (out ++ s, false) := by
  intro s
  induction s with
  | nil => intro out _; rw [escL, E_nil, List.append_nil]
  | cons c s ih =>
    intro out ho
    simp only [List.length_cons] at ho
    rw [escL]
    by_cases hc : escB c = true
    · rw [if_pos hc]
      have hd : dollarL L (c :: escL s) = ([c], escL s, true) := by rw [dollarL, if_pos (show escR c.toNat = true from hc)]
      rw [E_dollar _ out false hd, if_neg (by simp), if_neg (by simp; omega), ih _ (by simp; omega)]
      simp
    · rw [if_neg hc, E_char, ih _ (by simp; omega)]
      · simp
      · rintro rfl; exact hc (by decide)
theorem expand_esc (L : List Lev) (s : Txt) (hs : s.length ≤ 3000) : expandL L (escL s) = (s, 0) := by
  rw [expandL_E, E_esc L s [] (by simp; omega), List.nil_append, finL, if_neg (by simp; omega)]
end Go.Proofs.Ytlpjhpdgjeiioaa.Sc
