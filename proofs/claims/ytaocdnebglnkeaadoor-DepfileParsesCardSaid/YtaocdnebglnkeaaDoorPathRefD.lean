/- The reference's Clean is cleanL. -/
import Derived.Test.YtaocdnebglnkeaaDoorPathFsD
import Derived.Test.YtaocdnebglnkeaaDoorPBellowsref03Clean0
import Derived.Test.YtaocdnebglnkeaaDoorPBellowsref03Right0
set_option linter.unusedSimpArgs false
set_option linter.unusedVariables false
namespace Go.Proofs.YtaocdnebglnkeaaDoor.PTh
open Go.RowKit Go.Proofs.YtaocdnebglnkeaaDoorW.PrintWords Go.Proofs.YtaocdnebglnkeaaDoor.U Go.Proofs.YtaocdnebglnkeaaDoor.P Go.Proofs.YtaocdnebglnkeaaDoor.Rng

theorem plain_all : ((List.range 256).all fun n => bellowsref03_plain.f (n : Int) == some (plainR n)) = true := by decide +kernel
theorem plain_f (b : UInt8) : bellowsref03_plain.f (b.toNat : Int) = some (plainB b) := by
  have h := List.all_eq_true.1 plain_all b.toNat (List.mem_range.2 b.toNat_lt)
  exact beq_iff_eq.1 h

def fin (qs : List (List UInt8)) : ByteArray × Int := if joinP qs = [] then (B [], 5) else if 100 < (joinP qs).length then (B [], 3) else (B (joinP qs), 0)
theorem joinP_take (qs : List (List UInt8)) (i : Nat) : (joinP (qs.take i)).length ≤ (joinP qs).length := by
  by_cases h1 : qs.take i = []
  · rw [h1]; exact Nat.zero_le _
  · by_cases h2 : qs.drop i = []
    · have := List.take_append_drop i qs
      rw [h2, List.append_nil] at this
      rw [this]; exact Nat.le_refl _
    · have := joinP_append _ _ h1 h2
      rw [List.take_append_drop] at this
      rw [this, List.length_append]; omega
theorem ref_l2 (qs : List (List UInt8)) (hn : qs.length < 1000000) (hl : (joinP qs).length < 1000000) (d : Nat) : ∀ i : Nat, i + d = qs.length →
    Ev (fun k => bellowsref03_Clean.l2 k (qs.map B) (B (joinP (qs.take i))) (i : Int)) (fin qs) := by
  induction d with
  | zero =>
    intro i hi
    refine Ev.unroll ?_
    have h1 : ¬ (i : Int) < ((qs.map B).length : Int) := by rw [List.length_map]; omega
    have h2 : qs.take i = qs := List.take_of_length_le (by omega)
    simp only [bellowsref03_Clean.l2, if_neg h1, h2, toList_B, size_B]
    unfold fin
    by_cases h3 : joinP qs = []
    · simp only [if_pos h3]; exact Ev.now _
    · by_cases h4 : 100 < (joinP qs).length
      · have h5 : ((joinP qs).length : Int) > 100 := by omega
        simp only [if_neg h3, if_pos h4, if_pos h5]; exact Ev.now _
      · have h5 : ¬ ((joinP qs).length : Int) > 100 := by omega
        simp only [if_neg h3, if_neg h4, if_neg h5]; exact Ev.now _
  | succ d ih =>
    intro i hi
    refine Ev.unroll ?_
    have hlt : i < qs.length := by omega
    have h1 : (i : Int) < ((qs.map B).length : Int) := by rw [List.length_map]; omega
    have h0 : (0 : Int) ≤ (i : Int) := by omega
    have hr := ih (i + 1) (by omega)
    have hw := Aside0.mk (wrap_succ i (by omega))
    have hrd : rdOf ByteArray.empty (qs.map B) (i : Int) = B qs[i] := by rw [rdOf_B _ _ (by simpa using hlt)]; simp
    have htk : qs.take (i + 1) = qs.take i ++ [qs[i]] := by rw [List.take_add_one, List.getElem?_eq_getElem hlt]; rfl
    have hb1 := joinP_take qs i
    have hb2 := joinP_take qs (i + 1)
    by_cases hi0 : i = 0
    · subst hi0
      have h2 : ¬ ((0 : Nat) : Int) > 0 := by omega
      have e1 : joinP (qs.take (0 + 1)) = qs[0] := by rw [htk]; simp [joinP_one]
      rw [e1] at hb2 hr
      have s1 : (B (joinP (qs.take 0))).size + (B qs[0]).size ≤ 9223372036854775807 := by rw [size_B, size_B]; omega
      have e2 : B (joinP (qs.take 0)) ++ B qs[0] = B qs[0] := by rw [B_append]; simp [joinP_nil]
      simp only [bellowsref03_Clean.l2, if_pos h1, if_neg h2, if_pos h0, hrd, if_pos s1, e2, hw.out]
      exact hr
    · have h2 : (i : Int) > 0 := by omega
      have hne : qs.take i ≠ [] := by
        intro e
        have := congrArg List.length e
        rw [List.length_take, List.length_nil] at this
        omega
      have e1 : joinP (qs.take (i + 1)) = joinP (qs.take i) ++ 47 :: qs[i] := by rw [htk, joinP_snoc _ hne]
      rw [e1] at hb2 hr
      rw [List.length_append, List.length_cons] at hb2
      have e2 : (B (joinP (qs.take i)) ++ (⟨#[47]⟩ : ByteArray)) ++ B qs[i] = B (joinP (qs.take i) ++ 47 :: qs[i]) := by
        show (B _ ++ B [47]) ++ B _ = _
        rw [B_append, B_append]; simp
      have s1 : (B (joinP (qs.take i))).size + 1 ≤ 9223372036854775807 := by rw [size_B]; omega
      have s2 : (B (joinP (qs.take i)) ++ (⟨#[47]⟩ : ByteArray)).size + (B qs[i]).size ≤ 9223372036854775807 := by
        show (B (joinP (qs.take i)) ++ B [47]).size + (B qs[i]).size ≤ _
        rw [B_append, size_B, size_B, List.length_append, List.length_singleton]; omega
      simp only [bellowsref03_Clean.l2, if_pos h1, if_pos h2, if_pos h0, hrd, if_pos s1, if_pos s2, e2, hw.out]
      exact hr

def step1 (w : List UInt8) (ps : List (List UInt8)) : Option (List (List UInt8)) :=
  if w = [] ∨ w = [46] then some ps else if w = [46, 46] then (if ps = [] then none else some ps.dropLast) else some (ps ++ [w])
theorem foldP_step (w : List UInt8) (r ps : List (List UInt8)) : foldP (w :: r) ps = (step1 w ps).bind (foldP r) := by
  rw [foldP, step1]
  by_cases h1 : w = [] ∨ w = [46]
  · rw [if_pos h1, if_pos h1]; rfl
  · rw [if_neg h1, if_neg h1]
    by_cases h2 : w = [46, 46]
    · rw [if_pos h2, if_pos h2]
      by_cases h3 : ps = []
      · rw [if_pos h3, if_pos h3]; rfl
      · rw [if_neg h3, if_neg h3]; rfl
    · rw [if_neg h2, if_neg h2]; rfl
theorem step1_len {w : List UInt8} {ps qs : List (List UInt8)} (h : step1 w ps = some qs) : qs.length ≤ ps.length + 1 ∧ (joinP qs).length ≤ (joinP ps).length + 1 + w.length := by
  rw [step1] at h
  by_cases h1 : w = [] ∨ w = [46]
  · rw [if_pos h1] at h; cases h; omega
  · rw [if_neg h1] at h
    by_cases h2 : w = [46, 46]
    · rw [if_pos h2] at h
      by_cases h3 : ps = []
      · rw [if_pos h3] at h; cases h
      · rw [if_neg h3] at h; cases h
        have := joinP_take ps (ps.length - 1)
        rw [← List.dropLast_eq_take] at this
        rw [List.length_dropLast]; omega
    · rw [if_neg h2] at h; cases h
      by_cases h3 : ps = []
      · subst h3; simp [joinP_one, joinP_nil]
      · rw [joinP_snoc _ h3]; simp; omega
/-- One part done. -/
theorem ref_part (T p w r : List UInt8) (ps : List (List UInt8)) (R : ByteArray × Int) (hT : T = p ++ (w ++ r)) (hl : T.length < 100000) (hps : ps.length < 1000000)
    (h0 : step1 w ps = none → R = (B [], 5))
    (h1 : ∀ qs, step1 w ps = some qs → Ev (fun k => bellowsref03_Clean.l1 k (B T) (qs.map B) ((p.length + w.length + 1 : Nat) : Int) ((p.length + w.length + 1 : Nat) : Int)) R) :
    Ev (fun k => bellowsref03_Clean.j2 k (B T) (ps.map B) (p.length : Int) ((p.length + w.length : Nat) : Int) false) R := by
  refine Ev.unroll ?_
  have hTl : T.length = p.length + (w.length + r.length) := by rw [hT]; simp
  have a1 : (0 : Int) ≤ (p.length : Int) := by omega
  have a2 : (p.length : Int) ≤ ((p.length + w.length : Nat) : Int) := by omega
  have a3 : ((p.length + w.length : Nat) : Int) ≤ ((B T).size : Int) := by rw [size_B]; omega
  have hex : (B T).extract (p.length : Int).toNat ((p.length + w.length : Nat) : Int).toNat = B w := by
    rw [extract_B, Int.toNat_natCast, Int.toNat_natCast, hT, ← List.append_assoc, List.take_left' (by simp)]; simp
  have hw := Aside0.mk (show wrap64 (((p.length + w.length : Nat) : Int) + 1) = ((p.length + w.length + 1 : Nat) : Int) from wrap_succ _ (by omega))
  simp only [bellowsref03_Clean.j2, Bool.false_eq_true, if_false, if_pos a1, if_pos a2, if_pos a3, hex, hw.out, toList_B]
  by_cases c1 : w = []
  · simp only [if_pos c1]
    refine Ev.unroll ?_
    simp only [bellowsref03_Clean.j3, if_true, hw.out]
    exact h1 ps (by rw [step1, if_pos (.inl c1)])
  · simp only [if_neg c1]
    refine Ev.unroll ?_
    by_cases c2 : w = [46]
    · have : (w == ([46] : List UInt8)) = true := beq_iff_eq.2 c2
      simp only [bellowsref03_Clean.j3, this, if_true, hw.out]
      exact h1 ps (by rw [step1, if_pos (.inr c2)])
    · have : (w == ([46] : List UInt8)) = false := beq_eq_false_iff_ne.2 c2
      have c12 : ¬ (w = [] ∨ w = [46]) := by simp [c1, c2]
      simp only [bellowsref03_Clean.j3, this, Bool.false_eq_true, if_false, toList_B]
      by_cases c3 : w = [46, 46]
      · simp only [if_pos c3]
        refine Ev.unroll ?_
        by_cases c4 : ps = []
        · subst c4
          simp only [bellowsref03_Clean.j4, List.map_nil, List.length_nil]
          simp only [show (((0 : Nat) : Int) == 0) = true from rfl, if_true]
          have := h0 (by rw [step1, if_neg c12, if_pos c3, if_pos rfl])
          subst this
          exact Ev.now _
        · have hpl : 0 < ps.length := List.length_pos_iff.2 c4
          have e0 : (((ps.map B).length : Int) == 0) = false := by rw [beq_eq_false_iff_ne, List.length_map]; omega
          have e1 : wrap64 (((ps.map B).length : Int) - 1) = ((ps.length - 1 : Nat) : Int) := by rw [List.length_map, wrap_id _ (by omega) (by omega)]; omega
          have e2 : (0 : Int) ≤ ((ps.length - 1 : Nat) : Int) := by omega
          have e3 : ((ps.length - 1 : Nat) : Int) ≤ ((ps.map B).length : Int) := by rw [List.length_map]; omega
          have e4 : (ps.map B).take ((ps.length - 1 : Nat) : Int).toNat = ps.dropLast.map B := by rw [Int.toNat_natCast, List.dropLast_eq_take, List.map_take]
          simp only [bellowsref03_Clean.j4, e0, Bool.false_eq_true, if_false, toList_B, if_pos c3, e1, if_pos e2, if_pos e3, e4, hw.out]
          exact h1 _ (by rw [step1, if_neg c12, if_pos c3, if_neg c4])
      · simp only [if_neg c3]
        refine Ev.unroll ?_
        have e1 : (ps.map B).length < 8796093022208 := by rw [List.length_map]; omega
        simp only [bellowsref03_Clean.j4, Bool.false_eq_true, if_false, toList_B, if_neg c3, if_pos e1, hw.out]
        have := h1 (ps ++ [w]) (by rw [step1, if_neg c12, if_neg c3])
        rw [List.map_append] at this
        exact this
def Rof (o : Option (List (List UInt8))) : ByteArray × Int := match o with | none => (B [], 5) | some qs => fin qs
theorem ref_l1 (n : Nat) : ∀ (T p w s : List UInt8) (ps : List (List UInt8)), s.length = n → T = p ++ (w ++ s) → (47 : UInt8) ∉ w → T.length < 100000 → ps.length + s.length < 500000 →
    (joinP ps).length + w.length + s.length < 500000 →
    Ev (fun k => bellowsref03_Clean.l1 k (B T) (ps.map B) (p.length : Int) ((p.length + w.length : Nat) : Int)) (Rof (foldP (sp (w ++ s)) ps)) := by
  induction n with
  | zero =>
    intro T p w s ps hs hT hw hl hps hj
    obtain rfl := List.length_eq_zero_iff.1 hs
    simp only [List.length_nil, Nat.add_zero] at hps hj
    refine Ev.unroll ?_
    have hTl : T.length = p.length + w.length := by rw [hT]; simp
    have h1 : ((p.length + w.length : Nat) : Int) ≤ ((B T).size : Int) := by rw [size_B]; omega
    have h2 : ¬ ((p.length + w.length : Nat) : Int) < ((B T).size : Int) := by rw [size_B]; omega
    simp only [bellowsref03_Clean.l1, if_pos h1, if_neg h2]
    rw [List.append_nil, sp_none w hw, foldP_step]
    refine ref_part T p w [] ps _ hT hl (by omega) (fun h => by rw [h]; rfl) (fun qs h => ?_)
    have hq := step1_len h
    rw [h]
    refine Ev.unroll ?_
    have h3 : ¬ ((p.length + w.length + 1 : Nat) : Int) ≤ ((B T).size : Int) := by rw [size_B]; omega
    simp only [bellowsref03_Clean.l1, if_neg h3]
    have := ref_l2 qs (by omega) (by omega) qs.length 0 (by omega)
    exact this
  | succ n ih =>
    intro T p w s ps hs hT hw hl hps hj
    cases s with
    | nil => cases hs
    | cons b s =>
      simp only [List.length_cons] at hs hps hj
      refine Ev.unroll ?_
      have hTl : T.length = p.length + (w.length + (s.length + 1)) := by rw [hT]; simp
      have h1 : ((p.length + w.length : Nat) : Int) ≤ ((B T).size : Int) := by rw [size_B]; omega
      have h2 : ((p.length + w.length : Nat) : Int) < ((B T).size : Int) := by rw [size_B]; omega
      have h3 : (0 : Int) ≤ ((p.length + w.length : Nat) : Int) := by omega
      have hbt : bt (B T) ((p.length + w.length : Nat) : Int) = (b.toNat : Int) := by
        have := bt_mid (p ++ w) b s
        rw [List.length_append, List.append_assoc, ← hT] at this
        exact this
      simp only [bellowsref03_Clean.l1, if_pos h1, if_pos h2, if_pos h3, hbt]
      by_cases hb : b = 47
      · subst hb
        have e1 : (((47 : UInt8).toNat : Int) != 47) = false := rfl
        rw [e1, sp_at w s hw, foldP_step]
        refine ref_part T p w (47 :: s) ps _ hT hl (by omega) (fun h => by rw [h]; rfl) (fun qs h => ?_)
        have hq := step1_len h
        rw [h]
        have := ih T (p ++ (w ++ [47])) [] s qs (by omega) (by rw [hT]; simp) (by simp) hl (by omega) (by simp; omega)
        simp only [List.length_append, List.length_singleton, List.length_nil, Nat.add_zero, List.nil_append] at this
        exact this
      · have e1 : ((b.toNat : Int) != 47) = true := bne_iff_ne.2 (byte_ne (d := 47) hb)
        rw [e1]
        refine Ev.unroll ?_
        have hw2 := Aside0.mk (show wrap64 (((p.length + w.length : Nat) : Int) + 1) = ((p.length + w.length + 1 : Nat) : Int) from wrap_succ _ (by omega))
        simp only [bellowsref03_Clean.j2, if_true, hw2.out]
        have := ih T p (w ++ [b]) s ps (by omega) (by rw [hT]; simp) (by simp [hw, Ne.symm hb]) hl (by omega) (by rw [List.length_append, List.length_singleton]; omega)
        rw [List.length_append, List.length_singleton, List.append_assoc] at this
        exact this
theorem ref_l0 (n : Nat) (T : List UInt8) (hl : T.length < 100000) : ∀ (p s : List UInt8), s.length = n → T = p ++ s → (p ≠ [] → T.head? ≠ some 47) → p.all plainB = true →
    Ev (fun k => bellowsref03_Clean.l0 k (B T) (p.length : Int)) (if T.head? = some 47 ∨ T.all plainB = false then (B [], 5) else Rof (foldP (sp T) [])) := by
  induction n with
  | zero =>
    intro p s hs hT hh hp
    obtain rfl := List.length_eq_zero_iff.1 hs
    rw [List.append_nil] at hT
    subst hT
    refine Ev.unroll ?_
    have h1 : ¬ (T.length : Int) < ((B T).size : Int) := by rw [size_B]; omega
    have hh' : ¬ (T.head? = some 47 ∨ T.all plainB = false) := by
      rintro (h | h)
      · cases T with
        | nil => cases h
        | cons b t => exact hh (by simp) h
      · rw [hp] at h; cases h
    simp only [bellowsref03_Clean.l0, if_neg h1, if_neg hh']
    have := ref_l1 T.length T [] [] T [] rfl rfl (by simp) hl (by simp; omega) (by simp [joinP_nil]; omega)
    exact this
  | succ n ih =>
    intro p s hs hT hh hp
    cases s with
    | nil => cases hs
    | cons b s =>
      refine Ev.unroll ?_
      have hTl : T.length = p.length + (s.length + 1) := by rw [hT]; simp
      have h1 : (p.length : Int) < ((B T).size : Int) := by rw [size_B]; omega
      have h2 : (0 : Int) ≤ (p.length : Int) := by omega
      have hbt : bt (B T) (p.length : Int) = (b.toNat : Int) := by rw [hT]; exact bt_mid p b s
      have hw := Aside0.mk (show wrap64 ((p.length : Int) + 1) = ((p.length + 1 : Nat) : Int) from wrap_succ _ (by omega))
      simp only [bellowsref03_Clean.l0, if_pos h1, if_pos h2, hbt, plain_f, Option.bind_some, hw.out]
      by_cases hb : plainB b = true
      · simp only [if_pos hb]
        have go : (T.head? ≠ some 47) → Ev (fun k => bellowsref03_Clean.l0 k (B T) ((p.length + 1 : Nat) : Int)) (if T.head? = some 47 ∨ T.all plainB = false then (B [], 5) else Rof (foldP (sp T) [])) := fun hd => by
          have := ih (p ++ [b]) s (by simpa using hs) (by rw [hT]; simp) (fun _ => hd) (by rw [List.all_append, hp]; simp [hb])
          rw [List.length_append, List.length_singleton] at this
          exact this
        by_cases hp0 : p = []
        · subst hp0
          have hd : T.head? = some b := by rw [hT]; rfl
          simp only [List.length_nil]
          simp only [show ((0 : Nat) : Int) = 0 from rfl, if_true]
          by_cases hb47 : b = 47
          · subst hb47
            simp only [show ((47 : UInt8).toNat : Int) = 47 from rfl, if_true, if_pos (Or.inl hd)]
            exact Ev.now _
          · simp only [if_neg (show ¬ (b.toNat : Int) = 47 from byte_ne (d := 47) hb47)]
            have := go (by rw [hd]; simpa using hb47)
            simpa using this
        · have h3 : ¬ (p.length : Int) = 0 := by
            have := List.length_pos_iff.2 hp0
            omega
          simp only [if_neg h3]
          exact go (hh hp0)
      · simp only [if_neg hb]
        have : T.all plainB = false := by
          rw [hT, List.all_append, List.all_cons]
          simp [hb]
        rw [if_pos (.inr this)]
        exact Ev.now _
theorem ref_Clean (l : List UInt8) : Ev (fun k => bellowsref03_Clean.f k (B l)) (B (cleanL l).1, (cleanL l).2) := by
  by_cases h : ((B l).size : Int) > 1000
  · have h' : 1000 < l.length := by rw [size_B] at h; omega
    simp only [bellowsref03_Clean.f, if_pos h, cleanL, if_pos h']
    exact Ev.now _
  · have h' : ¬ 1000 < l.length := by rw [size_B] at h; omega
    simp only [bellowsref03_Clean.f, if_neg h]
    have := ref_l0 l.length l (by omega) [] l rfl rfl (by simp) rfl
    refine Ev.eqn this ?_
    rw [cleanL, if_neg h']
    by_cases h2 : l.head? = some 47 ∨ l.all plainB = false
    · rw [if_pos h2, if_pos h2]
    · rw [if_neg h2, if_neg h2]
      show Rof (foldP (splitK 47 0 l) []) = _
      cases foldP (splitK 47 0 l) [] with
      | none => rfl
      | some ps =>
        simp only [Rof, fin]
        split
        · rfl
        · split <;> rfl
theorem ref_Right (l : List UInt8) : Ev (fun k => bellowsref03_Right.f k (B l)) (decide (cleanL l = (l, 0))) := by
  simp only [bellowsref03_Right.f]
  refine Ev.bind (ref_Clean l) ?_
  simp only [toList_B]
  by_cases h : (cleanL l).2 = 0
  · rw [if_pos h]
    refine Ev.eqn (Ev.now _) ?_
    rw [Bool.eq_iff_iff, beq_iff_eq, decide_eq_true_iff]
    exact ⟨fun e => Prod.ext e h, fun e => by rw [e]⟩
  · rw [if_neg h]
    refine Ev.eqn (Ev.now _) ?_
    symm
    rw [decide_eq_false_iff_not]
    intro e; rw [e] at h; exact h rfl
end Go.Proofs.YtaocdnebglnkeaaDoor.PTh
