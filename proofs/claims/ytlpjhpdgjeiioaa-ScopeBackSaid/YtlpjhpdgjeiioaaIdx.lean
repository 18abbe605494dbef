/- The first byte at which a predicate of ASCII runes fails. -/
import Derived.Test.YtlpjhpdgjeiioaaU
import Derived.Test.YtlpjhpdgjeiioaaShelf
set_option linter.unusedSimpArgs false
set_option linter.unusedVariables false
namespace Go.Proofs.Ytlpjhpdgjeiioaa.Idx
open Go.RowKit Go.Lib Go.Proofs.Ytlpjhpdgjeiioaa.U

theorem decode_at (s : ByteArray) (pos : Nat) (h : pos < s.size) : ((s[pos]'h).toNat < 128 → Utf8.decode s pos = ((s[pos]'h).toNat, 1)) ∧ (128 ≤ (s[pos]'h).toNat → 128 ≤ (Utf8.decode s pos).1) := by
  have hg : (s.get! pos).toNat = (s[pos]'h).toNat := by
    have : s.get! pos = s[pos]'h := by
      show s.data[pos]! = s.data[pos]'h
      rw [getElem!_pos s.data pos h]
    rw [this]
  have hlt := (s[pos]'h).toNat_lt
  constructor
  · intro h1
    unfold Utf8.decode
    simp only [Nat.add_zero, hg]
    rw [if_pos h1]
  · intro h1
    unfold Utf8.decode
    simp only [Nat.add_zero, hg]
    rw [if_neg (by omega)]
    split
    · split
      · assumption
      · show 128 ≤ Utf8.runeError; decide
    · split
      · split
        · rename_i h2; simp only [Bool.and_eq_true, decide_eq_true_eq] at h2; omega
        · show 128 ≤ Utf8.runeError; decide
      · split
        · split
          · rename_i h2; simp only [Bool.and_eq_true, decide_eq_true_eq] at h2; omega
          · show 128 ≤ Utf8.runeError; decide
        · show 128 ≤ Utf8.runeError; decide
theorem idx_from (q : Nat → Bool) (hq : ∀ c, 128 ≤ c → q c = false) (r : List UInt8) : ∀ (a : List UInt8) (f : Nat), r.length ≤ f →
    Lib.idxFuncFrom (fun c => !q c) true (B (a ++ r)) f a.length = if r.all (fun b => q b.toNat) then -1 else ((a.length + (r.takeWhile (fun b => q b.toNat)).length : Nat) : Int) := by
  induction r with
  | nil =>
    intro a f hf
    cases f with
    | zero => rfl
    | succ f =>
      unfold Lib.idxFuncFrom
      rw [if_neg (by rw [size_B]; simp)]; rfl
  | cons b r ih =>
    intro a f hf
    cases f with
    | zero => simp at hf
    | succ f =>
      have hp : a.length < (B (a ++ b :: r)).size := by rw [size_B]; simp
      have hb : (B (a ++ b :: r))[a.length]'hp = b := by
        show (a ++ b :: r).toArray[a.length]'_ = b
        simp
      have hd := decode_at (B (a ++ b :: r)) a.length hp
      rw [hb] at hd
      unfold Lib.idxFuncFrom
      rw [if_pos hp]
      by_cases hqb : q b.toNat = true
      · have hlt : b.toNat < 128 := by
          refine Nat.lt_of_not_le fun h2 => ?_
          rw [hq _ h2] at hqb; cases hqb
        rw [hd.1 hlt]
        have := ih (a ++ [b]) f (by simpa using hf)
        rw [List.length_append, List.length_singleton, List.append_assoc] at this
        simp only [hqb, Bool.not_true, Bool.false_eq_true, if_false, List.all_cons, Bool.true_and, List.takeWhile_cons, if_true, List.length_cons, beq_iff_eq]
        rw [show [b] ++ r = b :: r from rfl] at this
        rw [this]
        split
        · rfl
        · congr 1; omega
      · have hqb' : q b.toNat = false := by simpa using hqb
        have hqd : q (Utf8.decode (B (a ++ b :: r)) a.length).1 = false := by
          by_cases hlt : b.toNat < 128
          · rw [hd.1 hlt]; exact hqb'
          · exact hq _ (hd.2 (by omega))
        simp only [hqd, hqb', Bool.not_false, if_true, List.all_cons, Bool.false_and, Bool.false_eq_true, if_false, List.takeWhile_cons, List.length_nil, Nat.add_zero, BEq.rfl]
theorem idx_func (q : Nat → Bool) (hq : ∀ c, 128 ≤ c → q c = false) (l : List UInt8) :
    Lib.idxFunc (fun c => !q c) true (B l) = if l.all (fun b => q b.toNat) then -1 else ((l.takeWhile (fun b => q b.toNat)).length : Int) := by
  have := idx_from q hq l [] (B l).size (by rw [size_B]; exact Nat.le_refl _)
  simp only [List.nil_append, List.length_nil, Nat.zero_add] at this
  exact this
end Go.Proofs.Ytlpjhpdgjeiioaa.Idx
