/- PathDots: single dots, empty parts and parts taken back do not alter a clean way. -/
import Derived.Test.YtdnjfjcedcdlnaaDoorPathRef
import Derived.Test.YtdnjfjcedcdlnaaDoorPBellowslaw03PathDots0
set_option linter.unusedSimpArgs false
set_option linter.unusedVariables false
namespace Go.Proofs.YtdnjfjcedcdlnaaDoor.Pure
open Go.RowKit Go.Proofs.YtdnjfjcedcdlnaaDoor.P Go.Proofs.YtdnjfjcedcdlnaaDoorW.PrintWords Go.Proofs.YtdnjfjcedcdlnaaDoorW.PrintLast Go.Proofs.YtdnjfjcedcdlnaaDoor.U Go.Proofs.YtdnjfjcedcdlnaaDoor.PTh Go.Proofs.YtdnjfjcedcdlnaaDoor.Rng

namespace PathDots
def W : List UInt8 := [47, 46, 47, 121, 47, 46, 46, 47]
def T1 (q : Bool) (b : UInt8) : List UInt8 := if b = 47 ∧ q = true then 47 :: W else [b]
def T (q : Bool) (l : List UInt8) : List UInt8 := l.flatMap (T1 q)
theorem T_cons (q : Bool) (b : UInt8) (l : List UInt8) : T q (b :: l) = T1 q b ++ T q l := rfl
theorem T_append (q : Bool) (a b : List UInt8) : T q (a ++ b) = T q a ++ T q b := by simp [T]
theorem T_none (q : Bool) (l : List UInt8) (h : (47 : UInt8) ∉ l) : T q l = l := by
  induction l with
  | nil => rfl
  | cons b l ih =>
    have hb : b ≠ 47 := fun e => h (by simp [e])
    rw [T_cons, ih (fun e => h (by simp [e])), T1, if_neg (by simp [hb])]; rfl
theorem T_len (q : Bool) (l : List UInt8) : (T q l).length ≤ 9 * l.length := by
  induction l with
  | nil => simp [T]
  | cons b l ih =>
    rw [T_cons, List.length_append, List.length_cons]
    have : (T1 q b).length ≤ 9 := by unfold T1; split <;> simp [W]
    omega
theorem T_all (q : Bool) (l : List UInt8) (h : l.all plainB = true) : (T q l).all plainB = true := by
  induction l with
  | nil => rfl
  | cons b l ih =>
    rw [List.all_cons, Bool.and_eq_true] at h
    rw [T_cons, List.all_append, ih h.2, Bool.and_true]
    unfold T1
    split
    · decide +kernel
    · simp [h.1]
theorem T_fold (q : Bool) (ps : List (List UInt8)) (hne : ps ≠ []) (hg : ∀ p ∈ ps, PTh.Good p) : ∀ s, foldP (sp (T q (joinP ps))) s = some (s ++ ps) := by
  induction ps with
  | nil => exact absurd rfl hne
  | cons p ps ih =>
    intro s
    obtain ⟨g1, g2, g3, g4⟩ := hg p (by simp)
    cases ps with
    | nil =>
      rw [joinP_one, T_none q p g4, sp_none p g4]
      exact foldP_good [p] s hg
    | cons r ps =>
      have ih := ih (by simp) (fun p hp => hg p (by simp [hp]))
      have hpush : ∀ rest, foldP (p :: rest) s = foldP rest (s ++ [p]) := fun rest => by rw [foldP, if_neg (by simp [g1, g2]), if_neg g3]
      rw [joinP_cons, T_append, T_none q p g4, T_cons]
      cases q with
      | false =>
        have e : T1 false 47 = [47] := rfl
        rw [e]
        show foldP (sp (p ++ 47 :: T false (joinP (r :: ps)))) s = _
        rw [sp_at p _ g4, hpush, ih]; simp
      | true =>
        have e : p ++ (T1 true 47 ++ T true (joinP (r :: ps))) = p ++ 47 :: ([] ++ 47 :: ([46] ++ 47 :: ([121] ++ 47 :: ([46, 46] ++ 47 :: T true (joinP (r :: ps)))))) := rfl
        rw [e, sp_at p _ g4, sp_at [] _ (by decide), sp_at [46] _ (by decide), sp_at [121] _ (by decide), sp_at [46, 46] _ (by decide), hpush]
        rw [foldP, if_pos (.inl rfl), foldP, if_pos (.inr rfl), foldP, if_neg (by decide), if_neg (by decide), foldP, if_neg (by decide), if_pos rfl, if_neg (by simp), List.dropLast_concat, ih]
        simp
def Y (q : Bool) (p : List UInt8) : List UInt8 := [46, 47, 120, 47, 46, 46, 47, 46, 47] ++ T q p
theorem Y_clean {c : List UInt8} {ps : List (List UInt8)} (hi : IsClean c ps) (q : Bool) (hl : (Y q c ++ [47, 47, 46]).length ≤ 1000) : cleanL (Y q c ++ [47, 47, 46]) = (c, 0) := by
  have hlen := hi.len
  have e : Y q c ++ [47, 47, 46] = [46] ++ 47 :: ([120] ++ 47 :: ([46, 46] ++ 47 :: ([46] ++ 47 :: (T q c ++ 47 :: ([] ++ 47 :: [46]))))) := rfl
  have hsp : sp (Y q c ++ [47, 47, 46]) = [[46], [120], [46, 46], [46]] ++ (sp (T q c) ++ [[], [46]]) := by
    rw [e, sp_at [46] _ (by decide), sp_at [120] _ (by decide), sp_at [46, 46] _ (by decide), sp_at [46] _ (by decide), sp_append, sp_at [] _ (by decide), sp_none [46] (by decide)]; rfl
  have hf : foldP (sp (Y q c ++ [47, 47, 46])) [] = some ps := by
    rw [hsp, PTh.foldP_append, show foldP [[46], [120], [46, 46], [46]] [] = some [] from by decide, Option.bind_some, PTh.foldP_append, hi.eq, T_fold q ps hi.ne hi.good []]
    rw [Option.bind_some, List.nil_append, foldP, if_pos (.inl rfl), foldP, if_pos (.inr rfl), foldP]
  have hp : (Y q c ++ [47, 47, 46]).all plainB = true := by
    rw [List.all_append, Y, List.all_append, T_all q c hi.allp]; decide +kernel
  rw [cleanL_of hl (by intro h; cases h) hp hf, ← hi.eq, if_neg hi.cne, if_neg (by omega)]
theorem loop {c : List UInt8} {ps : List (List UInt8)} (hi : IsClean c ps) (x1 : Int) (q : Bool) (hq : (Int.tmod (wrap64 x1) 3 > 0) ↔ q = true) (s : List UInt8) : ∀ p, c = p ++ s →
    Ev (fun k => bellowslaw03_PathDots.l0 k x1 (B c) (B (Y q p)) (p.length : Int)) true := by
  have hlen := hi.len
  have hyl : ∀ p, (Y q p).length ≤ 9 + 9 * p.length := fun p => by
    have := T_len q p
    rw [Y, List.length_append]
    have : ([46, 47, 120, 47, 46, 46, 47, 46, 47] : List UInt8).length = 9 := rfl
    omega
  induction s with
  | nil =>
    intro p hp
    rw [List.append_nil] at hp
    subst hp
    refine Ev.unroll ?_
    have h1 : ¬ (c.length : Int) < ((B c).size : Int) := by rw [size_B]; omega
    have hy := hyl c
    have h2 : (B (Y q c)).size + 3 ≤ 9223372036854775807 := by rw [size_B]; omega
    have e : B (Y q c) ++ (⟨#[47, 47, 46]⟩ : ByteArray) = B (Y q c ++ [47, 47, 46]) := by
      show B _ ++ B [47, 47, 46] = _
      rw [B_append]
    simp only [bellowslaw03_PathDots.l0, if_neg h1, if_pos h2, e, Clean_f, Option.bind_some]
    by_cases h3 : (Y q c ++ [47, 47, 46]).length ≤ 1000
    · simp only [Y_clean hi q h3, if_true, awake_f, Option.bind_some]
      exact Ev.now _
    · have h4 : cleanL (Y q c ++ [47, 47, 46]) = ([], 3) := by rw [cleanL, if_pos (by omega)]
      have h5 : ((B (Y q c)).size : Int) > 990 := by
        rw [List.length_append] at h3
        have : ([47, 47, 46] : List UInt8).length = 3 := rfl
        rw [size_B]; omega
      have h6 : ¬ (3 : Int) = 0 := by omega
      simp only [h4, if_neg h6, if_true, if_pos h5, awake_f, Option.bind_some]
      exact Ev.now _
  | cons b s ih =>
    intro p hp
    refine Ev.unroll ?_
    have hcl : c.length = p.length + (s.length + 1) := by rw [hp]; simp
    have hy := hyl p
    have h1 : (p.length : Int) < ((B c).size : Int) := by rw [size_B]; omega
    have h2 : (0 : Int) ≤ (p.length : Int) := by omega
    have h3 : (p.length : Int) ≤ ((p.length + 1 : Nat) : Int) := by omega
    have h4 : ((p.length + 1 : Nat) : Int) ≤ ((B c).size : Int) := by rw [size_B]; omega
    have hbt : bt (B c) (p.length : Int) = (b.toNat : Int) := by rw [hp]; exact bt_mid p b s
    have hex : (B c).extract (p.length : Int).toNat ((p.length + 1 : Nat) : Int).toNat = B [b] := by
      rw [extract_B, Int.toNat_natCast, Int.toNat_natCast, hp, show p ++ b :: s = (p ++ [b]) ++ s by simp, List.take_left' (by simp)]; simp
    have h5 : (B (Y q p)).size + (B [b]).size ≤ 9223372036854775807 := by rw [size_B, size_B]; simp; omega
    have e1 : B (Y q p) ++ B [b] = B (Y q p ++ [b]) := B_append _ _
    have h6 : (B (Y q p ++ [b])).size + 8 ≤ 9223372036854775807 := by rw [size_B, List.length_append]; simp; omega
    have e2 : B (Y q p ++ [b]) ++ (⟨#[47, 46, 47, 121, 47, 46, 46, 47]⟩ : ByteArray) = B (Y q p ++ [b] ++ W) := by
      show B _ ++ B [47, 46, 47, 121, 47, 46, 46, 47] = _
      rw [B_append]; rfl
    have hw := Aside0.mk (wrap_succ p.length (by omega))
    have := ih (p ++ [b]) (by rw [hp]; simp)
    rw [List.length_append, List.length_singleton] at this
    have hY : Y q (p ++ [b]) = Y q p ++ T1 q b := by simp [Y, T]
    rw [hY] at this
    by_cases hb : b = 47
    · subst hb
      by_cases hqq : q = true
      · have h7 : Int.tmod (wrap64 x1) 3 > 0 := hq.2 hqq
        simp only [bellowslaw03_PathDots.l0, if_pos h1, if_pos h2, hw.out, if_pos h3, if_pos h4, hex, if_pos h5, hbt, show ((47 : UInt8).toNat : Int) = 47 from rfl, if_true, if_pos h7, e1, if_pos h6, e2]
        rw [T1, if_pos ⟨rfl, hqq⟩] at this
        have e3 : Y q p ++ 47 :: W = Y q p ++ [47] ++ W := by simp
        rw [e3] at this
        exact this
      · have h7 : ¬ Int.tmod (wrap64 x1) 3 > 0 := fun h => hqq (hq.1 h)
        simp only [bellowslaw03_PathDots.l0, if_pos h1, if_pos h2, hw.out, if_pos h3, if_pos h4, hex, if_pos h5, hbt, show ((47 : UInt8).toNat : Int) = 47 from rfl, if_true, if_neg h7, e1]
        rw [T1, if_neg (fun h => hqq h.2)] at this
        exact this
    · simp only [bellowslaw03_PathDots.l0, if_pos h1, if_pos h2, hw.out, if_pos h3, if_pos h4, hex, if_pos h5, hbt, if_neg (show ¬ (b.toNat : Int) = 47 from byte_ne (d := 47) hb), e1]
      rw [T1, if_neg (fun h => hb h.1)] at this
      exact this
end PathDots
theorem PathDots : bellowslaw03_PathDots.Pure := by
  intro a0 a1 _ _
  obtain ⟨s, rfl⟩ := B_surj a0
  refine Ev.rounds ?_
  by_cases h : ((B s).size : Int) > 300
  · simp only [bellowslaw03_PathDots.f, if_pos h]; exact Ev.now _
  · simp only [bellowslaw03_PathDots.f, if_neg h, Clean_f, Option.bind_some]
    cases hc : cleanL s with
    | mk c e =>
    simp only
    by_cases he : e = 0
    · subst he
      obtain ⟨ps, hi⟩ := clean_is hc
      simp only [if_true]
      exact PathDots.loop hi a1 (decide (Int.tmod (wrap64 a1) 3 > 0)) decide_eq_true_iff.symm c [] rfl
    · simp only [if_neg he, awake_f, Option.bind_some]
      exact Ev.now _
end Go.Proofs.YtdnjfjcedcdlnaaDoor.Pure
