/- PathUp: as many '/..' behind a clean way as it has parts leave nothing; fewer leave a beginning of it. -/
import Derived.Test.YtdnjfjcedcdlnaaDoorPathRef
import Derived.Test.YtdnjfjcedcdlnaaDoorPBellowslaw03PathUp0
set_option linter.unusedSimpArgs false
set_option linter.unusedVariables false
namespace Go.Proofs.YtdnjfjcedcdlnaaDoor.Pure
open Go.RowKit Go.Proofs.YtdnjfjcedcdlnaaDoor.P Go.Proofs.YtdnjfjcedcdlnaaDoorW.PrintWords Go.Proofs.YtdnjfjcedcdlnaaDoorW.PrintLast Go.Proofs.YtdnjfjcedcdlnaaDoor.U Go.Proofs.YtdnjfjcedcdlnaaDoor.PTh Go.Proofs.YtdnjfjcedcdlnaaDoor.Rng

namespace PathUp
theorem sp_count (l : List UInt8) : (sp l).length = l.count 47 + 1 := by
  induction l with
  | nil => rfl
  | cons b l ih =>
    by_cases hb : b = 47
    · subst hb
      have e2 : sp (47 :: l) = [] :: sp l := sp_at [] _ (by simp)
      rw [e2, List.length_cons, ih, List.count_cons_self]
    · rw [List.count_cons_of_ne hb, ← ih]
      cases h : sp l with
      | nil => exact absurd h (sp_ne l)
      | cons q qs => rw [sp_cons hb h]; rfl
theorem up_fold (m : Nat) : ∀ s : List (List UInt8), foldP (List.replicate m [46, 46]) s = if m ≤ s.length then some (s.take (s.length - m)) else none := by
  induction m with
  | zero => intro s; simp [foldP]
  | succ m ih =>
    intro s
    rw [List.replicate_succ, foldP, if_neg (by simp), if_pos rfl]
    by_cases hs : s = []
    · subst hs; simp
    · have hl := List.length_pos_iff.2 hs
      rw [if_neg hs, ih, List.length_dropLast]
      by_cases h : m + 1 ≤ s.length
      · rw [if_pos h, if_pos (by omega), List.dropLast_eq_take, List.take_take]
        congr 2; omega
      · rw [if_neg h, if_neg (by omega)]
def U (c : List UInt8) : Nat → List UInt8
  | 0 => c
  | i + 1 => U c i ++ [47, 46, 46]
theorem U_len (c : List UInt8) (i : Nat) : (U c i).length = c.length + 3 * i := by
  induction i with
  | zero => rfl
  | succ i ih => rw [U, List.length_append, ih]; simp; omega
theorem U_sp (c : List UInt8) (i : Nat) : sp (U c i) = sp c ++ List.replicate i [46, 46] := by
  induction i with
  | zero => simp [U]
  | succ i ih =>
    rw [U, show U c i ++ [47, 46, 46] = U c i ++ 47 :: [46, 46] from rfl, sp_append, ih, sp_none [46, 46] (by decide), List.replicate_succ', List.append_assoc]
theorem U_all (c : List UInt8) (h : c.all plainB = true) (i : Nat) : (U c i).all plainB = true := by
  induction i with
  | zero => exact h
  | succ i ih => rw [U, List.all_append, ih]; decide +kernel
theorem U_head (c : List UInt8) (h : c ≠ []) (i : Nat) : (U c i).head? = c.head? := by
  induction i with
  | zero => rfl
  | succ i ih =>
    rw [U, List.head?_append, ih]
    cases c with
    | nil => exact absurd rfl h
    | cons b c => rfl
theorem joinP_prefix (ps : List (List UInt8)) (i : Nat) : joinP ps = joinP (ps.take i) ++ (joinP ps).drop (joinP (ps.take i)).length := by
  by_cases h1 : ps.take i = []
  · rw [h1]; simp [joinP_nil]
  · by_cases h2 : ps.drop i = []
    · have := List.take_append_drop i ps
      rw [h2, List.append_nil] at this
      rw [this]; simp
    · have := joinP_append _ _ h1 h2
      rw [List.take_append_drop] at this
      rw [this]; simp
theorem up_clean {c : List UInt8} {ps : List (List UInt8)} (hi : IsClean c ps) (m : Nat) (hm : m < 60) :
    cleanL (U c m) = if ps.length ≤ m then ([], 5) else (joinP (ps.take (ps.length - m)), 0) := by
  have hl := hi.len
  have hx : (U c m).length ≤ 1000 := by rw [U_len]; omega
  have hf : foldP (sp (U c m)) [] = if m ≤ ps.length then some (ps.take (ps.length - m)) else none := by
    rw [U_sp, hi.parts, PTh.foldP_append, foldP_good ps [] hi.good, List.nil_append]
    exact up_fold m ps
  by_cases h : ps.length ≤ m
  · rw [if_pos h]
    by_cases h2 : m ≤ ps.length
    · rw [if_pos h2] at hf
      have e : ps.length - m = 0 := by omega
      rw [e, List.take_zero] at hf
      rw [cleanL_of hx (by rw [U_head c hi.cne]; exact hi.head) (U_all c hi.allp m) hf, if_pos joinP_nil]
    · rw [if_neg h2] at hf
      exact cleanL_none hx hf
  · rw [if_neg h]
    rw [if_pos (by omega)] at hf
    rw [cleanL_of hx (by rw [U_head c hi.cne]; exact hi.head) (U_all c hi.allp m) hf]
    have hne : ps.take (ps.length - m) ≠ [] := by
      intro e
      have := congrArg List.length e
      rw [List.length_take, List.length_nil] at this
      omega
    have hj := joinP_take ps (ps.length - m)
    rw [← hi.eq] at hj
    rw [if_neg (joinP_ne hne (fun p hp => hi.good p (List.take_subset _ _ hp))), if_neg (by omega)]
theorem loop1 {c : List UInt8} {ps : List (List UInt8)} (hi : IsClean c ps) (m : Nat) (hm : m < 60) (d : Nat) : ∀ i, i + d = m →
    Ev (fun k => bellowslaw03_PathUp.l1 k (B c) (ps.length : Int) (m : Int) (B (U c i)) (i : Int)) true := by
  have hlen := hi.len
  induction d with
  | zero =>
    intro i hid
    obtain rfl : i = m := by omega
    refine Ev.unroll ?_
    have h1 : ¬ (i : Int) < (i : Int) := by omega
    simp only [bellowslaw03_PathUp.l1, if_neg h1, Clean_f, Option.bind_some]
    rw [up_clean hi i hm]
    by_cases h : ps.length ≤ i
    · have h2 : (i : Int) ≥ (ps.length : Int) := by omega
      simp only [if_pos h, if_pos h2, toList_B, if_true, awake_f, Option.bind_some]
      exact Ev.now _
    · have h2 : ¬ (i : Int) ≥ (ps.length : Int) := by omega
      have hj := joinP_take ps (ps.length - i)
      rw [← hi.eq] at hj
      have h3 : ((B (joinP (ps.take (ps.length - i)))).size : Int) ≤ ((B c).size : Int) := by rw [size_B, size_B]; omega
      have h4 : (0 : Int) ≤ ((B (joinP (ps.take (ps.length - i)))).size : Int) := by omega
      have h5 : ((B c).extract 0 ((B (joinP (ps.take (ps.length - i)))).size : Int).toNat).toList = joinP (ps.take (ps.length - i)) := by
        have hp := joinP_prefix ps (ps.length - i)
        rw [← hi.eq] at hp
        rw [Int.toNat_natCast, size_B, extract_B, toList_B, List.drop_zero]
        conv => lhs; rw [hp]
        exact List.take_left
      simp only [if_neg h, if_neg h2, if_true, if_pos h3, if_pos h4, h5, toList_B, awake_f, Option.bind_some]
      exact Ev.now _
  | succ d ih =>
    intro i hid
    refine Ev.unroll ?_
    have h1 : (i : Int) < (m : Int) := by omega
    have hs : (B (U c i)).size + 3 ≤ 9223372036854775807 := by rw [size_B, U_len]; omega
    have e : B (U c i) ++ (⟨#[47, 46, 46]⟩ : ByteArray) = B (U c (i + 1)) := by
      show B (U c i) ++ B [47, 46, 46] = _
      rw [B_append]; rfl
    have hw := Aside0.mk (wrap_succ i (by omega))
    simp only [bellowslaw03_PathUp.l1, if_pos h1, if_pos hs, e, hw.out]
    exact ih (i + 1) (by omega)
theorem loop0 (x1 : Int) (T : List UInt8) (hl : T.length < 100000) (s : List UInt8) : ∀ p, T = p ++ s →
    Ev (fun k => bellowslaw03_PathUp.l1 k (B T) ((T.count 47 + 1 : Nat) : Int) (Int.tmod (wrap64 x1) 60) (B T) 0) true →
    Ev (fun k => bellowslaw03_PathUp.l0 k x1 (B T) ((p.count 47 + 1 : Nat) : Int) (p.length : Int)) true := by
  induction s with
  | nil =>
    intro p hT h
    rw [List.append_nil] at hT
    subst hT
    refine Ev.unroll ?_
    have h1 : ¬ (T.length : Int) < ((B T).size : Int) := by rw [size_B]; omega
    simp only [bellowslaw03_PathUp.l0, if_neg h1]
    exact h
  | cons b s ih =>
    intro p hT h
    refine Ev.unroll ?_
    have hTl : T.length = p.length + (s.length + 1) := by rw [hT]; simp
    have h1 : (p.length : Int) < ((B T).size : Int) := by rw [size_B]; omega
    have h2 : (0 : Int) ≤ (p.length : Int) := by omega
    have hbt : bt (B T) (p.length : Int) = (b.toNat : Int) := by rw [hT]; exact bt_mid p b s
    have hc : p.count 47 ≤ p.length := List.count_le_length
    have hw := Aside0.mk (wrap_succ p.length (by omega))
    have hw2 := Aside0.mk (wrap_succ (p.count 47 + 1) (by omega))
    have := ih (p ++ [b]) (by rw [hT]; simp) h
    rw [List.length_append, List.length_singleton, List.count_append] at this
    by_cases hb : b = 47
    · subst hb
      simp only [bellowslaw03_PathUp.l0, if_pos h1, if_pos h2, hbt, show ((47 : UInt8).toNat : Int) = 47 from rfl, if_true, hw.out, hw2.out]
      exact this
    · rw [show List.count 47 [b] = 0 by rw [List.count_cons_of_ne hb]; rfl, Nat.add_zero] at this
      simp only [bellowslaw03_PathUp.l0, if_pos h1, if_pos h2, hbt, if_neg (show ¬ (b.toNat : Int) = 47 from byte_ne (d := 47) hb), hw.out]
      exact this
end PathUp
theorem PathUp : bellowslaw03_PathUp.Pure := by
  intro a0 a1 _ hwf
  obtain ⟨s, rfl⟩ := B_surj a0
  refine Ev.rounds ?_
  have ha : 0 ≤ a1 ∧ a1 ≤ 255 := by have := hwf; simp [Lit.wf] at this; exact ⟨this.1, this.2⟩
  by_cases h : ((B s).size : Int) > 300
  · simp only [bellowslaw03_PathUp.f, if_pos h]; exact Ev.now _
  · simp only [bellowslaw03_PathUp.f, if_neg h, Clean_f, Option.bind_some]
    cases hc : cleanL s with
    | mk c e =>
    simp only
    by_cases he : e = 0
    · subst he
      obtain ⟨ps, hi⟩ := clean_is hc
      have hl := hi.len
      simp only [if_true]
      have hm : Int.tmod (wrap64 a1) 60 = ((a1.toNat % 60 : Nat) : Int) := by
        rw [wrap_id _ (by omega) (by omega), Int.tmod_eq_emod_of_nonneg ha.1]; omega
      have hn : (c.count 47 + 1 : Nat) = ps.length := by rw [← PathUp.sp_count, hi.parts]
      refine PathUp.loop0 a1 c (by omega) c [] rfl ?_
      rw [hm, hn]
      exact PathUp.loop1 hi _ (by omega) _ 0 (Nat.zero_add _)
    · simp only [if_neg he, awake_f, Option.bind_some]
      exact Ev.now _
end Go.Proofs.YtdnjfjcedcdlnaaDoor.Pure
