/- The reference's words are the same. -/
import Derived.Test.YtlkoodikflflpaaLex
import Derived.Test.YtlkoodikflflpaaPBellowsref09Words0
set_option linter.unusedSimpArgs false
set_option linter.unusedVariables false
namespace Go.Proofs.Ytlkoodikflflpaa.P
open Go.RowKit Go.Proofs.YtlkoodikflflpaaW.PrintWords Go.Proofs.YtlkoodikflflpaaW.PrintLast Go.Proofs.YtlkoodikflflpaaW.PrintMore Go.Proofs.Ytlkoodikflflpaa.U Go.Proofs.Ytlkoodikflflpaa.Lex

def RefS (n : Nat) : Prop := ∀ (p s : List UInt8) (xs : List ByteArray), s.length ≤ n → p.length + s.length < 60000 → xs.length + s.length < 60000 →
  Ev (fun k => bellowsref09_Words.l0 k (B (p ++ s)) xs (p.length : Int)) (xs ++ (wordsGo s []).map B)
def RefT (n : Nat) : Prop := ∀ (p w s : List UInt8) (xs : List ByteArray), s.length ≤ n → p.length + w.length + s.length < 60000 → xs.length + w.length + s.length < 60000 →
  (w ≠ [] ∨ ∃ c s', s = c :: s' ∧ c ≠ 32 ∧ c ≠ 58 ∧ c ≠ 124) →
  Ev (fun k => bellowsref09_Words.l1 k (B (p ++ (w ++ s))) xs (p.length : Int) ((p.length + w.length : Nat) : Int)) (xs ++ (wordsGo s w).map B)
/-- At the end, or at a blank or a sign. -/
def RefH (n : Nat) : Prop := ∀ (p s : List UInt8) (xs : List ByteArray), s.length ≤ n → p.length + s.length < 60000 → xs.length + s.length < 60000 →
  (∀ c s', s = c :: s' → c = 32 ∨ c = 58 ∨ c = 124) →
  Ev (fun k => bellowsref09_Words.l0 k (B (p ++ s)) xs (p.length : Int)) (xs ++ (wordsGo s []).map B)

theorem ref_h {n : Nat} (hS : ∀ m, m < n → RefS m) : RefH n := by
  intro p s xs hs hp hx hh
  cases s with
  | nil =>
    refine Ev.unroll ?_
    have h1 : ¬ (p.length : Int) < ((B (p ++ [])).size : Int) := by rw [size_B]; simp
    simp only [bellowsref09_Words.l0, if_neg h1]
    exact Ev.eqn (Ev.now _) (by simp [wordsGo, flushL])
  | cons c s =>
    simp only [List.length_cons] at hs hp hx
    have h1 : (p.length : Int) < ((B (p ++ c :: s)).size : Int) := by rw [size_B]; simp; omega
    have h2 : (0 : Int) ≤ (p.length : Int) := by omega
    have h3 : xs.length < 8796093022208 := by omega
    have hw := wrap_succ p.length (by omega)
    have e1 : p ++ c :: s = (p ++ [c]) ++ s := by simp
    rcases hh c s rfl with rfl | rfl | rfl
    · refine Ev.unroll ?_
      simp only [bellowsref09_Words.l0, if_pos h1, if_pos h2, bt_mid, show ((32 : UInt8).toNat : Int) = 32 from rfl, if_true, hw]
      have := hS s.length (by omega) (p ++ [32]) s xs (Nat.le_refl _) (by simp only [List.length_append, List.length_cons, List.length_nil]; omega) (by omega)
      rw [e1]
      rw [List.length_append] at this
      exact Ev.eqn this (by rw [go_blank]; simp [flushL])
    · refine Ev.unroll ?_
      simp only [bellowsref09_Words.l0, if_pos h1, if_pos h2, bt_mid, show ((58 : UInt8).toNat : Int) = 58 from rfl, if_true, hw, if_pos h3, show ¬ (58 : Int) = 32 by omega, if_false]
      have := hS s.length (by omega) (p ++ [58]) s (xs ++ [B [58]]) (Nat.le_refl _) (by simp only [List.length_append, List.length_cons, List.length_nil]; omega) (by simp only [List.length_append, List.length_cons, List.length_nil]; omega)
      rw [e1]
      rw [List.length_append] at this
      exact Ev.eqn this (by rw [go_colon]; simp [flushL])
    · refine Ev.unroll ?_
      have t32 : ¬ ((124 : UInt8).toNat : Int) = 32 := by decide
      have t58 : ¬ ((124 : UInt8).toNat : Int) = 58 := by decide
      have t124 : ((124 : UInt8).toNat : Int) = 124 := rfl
      cases s with
      | nil =>
        have h4 : ¬ (((p.length + 1 : Nat) : Int) < ((B (p ++ [124])).size : Int)) := by rw [size_B]; simp
        simp only [bellowsref09_Words.l0, if_pos h1, if_pos h2, bt_mid, if_neg t32, if_neg t58, if_pos t124, hw, if_neg h4]
        refine Ev.unroll ?_
        simp only [bellowsref09_Words.j1, if_pos h1, if_pos h2, bt_mid, if_pos t124, hw, if_pos h3, Bool.false_eq_true, if_false]
        have := hS 0 (by omega) (p ++ [124]) [] (xs ++ [B [124]]) (Nat.le_refl _) (by simp only [List.length_append, List.length_cons, List.length_nil]; omega) (by simp only [List.length_append, List.length_cons, List.length_nil]; omega)
        rw [List.length_append, List.append_nil] at this
        exact Ev.eqn this (by simp [wordsGo, flushL])
      | cons d s =>
        have h4 : (((p.length + 1 : Nat) : Int) < ((B (p ++ 124 :: d :: s)).size : Int)) := by rw [size_B]; simp; omega
        have h5 : (0 : Int) ≤ ((p.length + 1 : Nat) : Int) := by omega
        have hb : bt (B (p ++ 124 :: d :: s)) ((p.length + 1 : Nat) : Int) = (d.toNat : Int) := by rw [← hw]; exact bt_next _ _ _ _ (by omega)
        simp only [bellowsref09_Words.l0, if_pos h1, if_pos h2, bt_mid, if_neg t32, if_neg t58, if_pos t124, hw, if_pos h4, if_pos h5, hb]
        refine Ev.unroll ?_
        by_cases hd : d = 124
        · subst hd
          have h6 : wrap64 ((p.length : Int) + 2) = ((p.length + 2 : Nat) : Int) := wrap_add p.length 2 (by omega)
          simp only [bellowsref09_Words.j1, t124, BEq.rfl, if_true, if_pos h3, h6]
          have := hS s.length (by simp at hs ⊢; omega) (p ++ [124, 124]) s (xs ++ [B [124, 124]]) (Nat.le_refl _) (by simp only [List.length_append, List.length_cons, List.length_nil] at hp ⊢; omega) (by simp only [List.length_append, List.length_cons, List.length_nil] at hx ⊢; omega)
          rw [List.length_append] at this
          have e2 : p ++ 124 :: 124 :: s = (p ++ [124, 124]) ++ s := by simp
          rw [e2]
          exact Ev.eqn this (by rw [go_bars]; simp [flushL])
        · have hd' : ((d.toNat : Int) == 124) = false := by rw [beq_eq_false_iff_ne]; exact byte_ne (d := 124) hd
          simp only [bellowsref09_Words.j1, hd', Bool.false_eq_true, if_false, if_pos h1, if_pos h2, bt_mid, if_pos t124, if_pos h3, hw]
          have := hS (d :: s).length (by simp at hs ⊢; omega) (p ++ [124]) (d :: s) (xs ++ [B [124]]) (Nat.le_refl _) (by simp only [List.length_append, List.length_cons, List.length_nil] at hp ⊢; omega) (by simp only [List.length_append, List.length_cons, List.length_nil] at hx ⊢; omega)
          rw [List.length_append] at this
          rw [e1]
          exact Ev.eqn this (by rw [go_bar _ _ (by intro x e; simp at e; exact hd e.1)]; simp [flushL])

set_option maxHeartbeats 1000000 in

theorem ref_t {n : Nat} (hH : RefH n) (hT : ∀ m, m < n → RefT m) : RefT n := by
  intro p w s xs hs hp hx hw
  have e0 : p ++ (w ++ s) = (p ++ w) ++ s := by simp
  have hlen : (p ++ w).length = p.length + w.length := by simp
  have a2 : (0 : Int) ≤ (p.length : Int) := by omega
  have a3 : (p.length : Int) ≤ ((p.length + w.length : Nat) : Int) := by omega
  have a4 : ((p.length + w.length : Nat) : Int) ≤ ((B (p ++ (w ++ s))).size : Int) := by rw [size_B]; simp; omega
  have a5 : xs.length < 8796093022208 := by omega
  have hex : (B (p ++ (w ++ s))).extract (p.length : Int).toNat ((p.length + w.length : Nat) : Int).toNat = B w := by
    rw [extract_B, Int.toNat_natCast, Int.toNat_natCast, e0, List.take_left' hlen]; simp
  -- the end of the word
  have hend : w ≠ [] → (∀ c s', s = c :: s' → c = 32 ∨ c = 58 ∨ c = 124) →
      Ev (fun k => bellowsref09_Words.j3 k (B (p ++ (w ++ s))) xs (p.length : Int) ((p.length + w.length : Nat) : Int) false) (xs ++ (wordsGo s w).map B) := by
    intro hw0 hsp
    refine Ev.unroll ?_
    simp only [bellowsref09_Words.j3, Bool.false_eq_true, if_false, if_pos a2, if_pos a3, if_pos a4, if_pos a5, hex]
    have hwl := List.length_pos_iff.2 hw0
    have := hH (p ++ w) s (xs ++ [B w]) hs (by rw [List.length_append]; omega) (by rw [List.length_append, List.length_singleton]; omega) hsp
    rw [hlen] at this
    rw [e0]
    refine Ev.eqn this ?_
    have hfl : flushL w = [w] := by simp [flushL, hw0]
    have hf0 : flushL ([] : List UInt8) = [] := rfl
    have hwl := List.length_pos_iff.2 hw0
    cases s with
    | nil => simp [wordsGo, hfl, hf0]
    | cons c s =>
      rcases hsp c s rfl with rfl | rfl | rfl
      · rw [go_blank, go_blank]; simp [hfl, hf0]
      · rw [go_colon, go_colon]; simp [hfl, hf0]
      · by_cases hb : ∀ x, s ≠ 124 :: x
        · rw [go_bar _ _ hb, go_bar _ _ hb]; simp [hfl, hf0]
        · obtain ⟨x, rfl⟩ : ∃ x, s = 124 :: x := Classical.byContradiction fun h => hb fun x e => h ⟨x, e⟩
          rw [go_bars, go_bars]; simp [hfl, hf0]
  cases s with
  | nil =>
    have hw0 : w ≠ [] := by
      rcases hw with h | ⟨c, s', e, _⟩
      · exact h
      · cases e
    refine Ev.unroll ?_
    have h1 : ¬ ((p.length + w.length : Nat) : Int) < ((B (p ++ (w ++ []))).size : Int) := by rw [size_B]; simp
    simp only [bellowsref09_Words.l1, if_neg h1]
    exact hend hw0 (by simp)
  | cons c s =>
    simp only [List.length_cons] at hs hp hx
    have h1 : ((p.length + w.length : Nat) : Int) < ((B (p ++ (w ++ c :: s))).size : Int) := by rw [size_B]; simp; omega
    have h2 : (0 : Int) ≤ ((p.length + w.length : Nat) : Int) := by omega
    have hb : bt (B (p ++ (w ++ c :: s))) ((p.length + w.length : Nat) : Int) = (c.toNat : Int) := by rw [e0, ← hlen, bt_mid]
    by_cases c32 : c = 32
    · refine Ev.unroll ?_
      have t : (c.toNat : Int) = 32 := by rw [c32]; rfl
      simp only [bellowsref09_Words.l1, if_pos h1, if_pos h2, hb, if_pos t]
      exact hend (hw.resolve_right (by rintro ⟨c', s', e, h, _⟩; cases e; exact h c32)) (by intro c' s' e; cases e; exact .inl c32)
    by_cases c58 : c = 58
    · refine Ev.unroll ?_
      have t : (c.toNat : Int) = 58 := by rw [c58]; rfl
      have t2 : ¬ (c.toNat : Int) = 32 := by rw [c58]; decide
      simp only [bellowsref09_Words.l1, if_pos h1, if_pos h2, hb, if_neg t2, if_pos t]
      exact hend (hw.resolve_right (by rintro ⟨c', s', e, _, h, _⟩; cases e; exact h c58)) (by intro c' s' e; cases e; exact .inr (.inl c58))
    have t32 : ¬ (c.toNat : Int) = 32 := byte_ne (d := 32) c32
    have t58 : ¬ (c.toNat : Int) = 58 := byte_ne (d := 58) c58
    by_cases c124 : c = 124
    · refine Ev.unroll ?_
      have t : ((c.toNat : Int) != 124) = false := by rw [c124]; rfl
      simp only [bellowsref09_Words.l1, if_pos h1, if_pos h2, hb, if_neg t32, if_neg t58, t]
      exact hend (hw.resolve_right (by rintro ⟨c', s', e, _, _, h⟩; cases e; exact h c124)) (by intro c' s' e; cases e; exact .inr (.inr c124))
    have t124 : ((c.toNat : Int) != 124) = true := by rw [bne_iff_ne]; exact byte_ne (d := 124) c124
    refine Ev.unroll ?_
    simp only [bellowsref09_Words.l1, if_pos h1, if_pos h2, hb, if_neg t32, if_neg t58, t124]
    refine Ev.unroll ?_
    have hws := wrap_succ (p.length + w.length) (by omega)
    by_cases c36 : c = 36
    · have t36 : (c.toNat : Int) = 36 := by rw [c36]; rfl
      cases s with
      | nil =>
        have h4 : ¬ (((p.length + w.length + 1 : Nat) : Int) < ((B (p ++ (w ++ [c]))).size : Int)) := by rw [size_B]; simp; omega
        simp only [bellowsref09_Words.j3, if_true, if_pos h1, if_pos h2, hb, if_pos t36, hws, if_neg h4]
        have := hT 0 (by omega) p (w ++ [c]) [] xs (Nat.le_refl _) (by simp only [List.length_append, List.length_cons, List.length_nil]; omega) (by simp only [List.length_append, List.length_cons, List.length_nil]; omega) (.inl (by simp))
        simp only [List.append_nil, List.append_assoc, List.length_append, List.length_cons, List.length_nil, ← Nat.add_assoc] at this
        exact Ev.eqn this (by rw [go_plain c [] w (.inr rfl) c124 c58 c32])
      | cons d s =>
        have q1 : s.length < n := by simp only [List.length_cons] at hs; clear hp hx h1 h2 hb hws; omega
        have q2 : p.length + (w ++ [c, d]).length + s.length < 60000 := by simp only [List.length_append, List.length_cons, List.length_nil] at hp ⊢; clear hx hs h1 h2 hb hws; omega
        have q3 : xs.length + (w ++ [c, d]).length + s.length < 60000 := by simp only [List.length_append, List.length_cons, List.length_nil] at hx ⊢; clear hp hs h1 h2 hb hws; omega
        have h4 : (((p.length + w.length + 1 : Nat) : Int) < ((B (p ++ (w ++ c :: d :: s))).size : Int)) := by rw [size_B]; simp; omega
        have hws2 : wrap64 (((p.length + w.length + 1 : Nat) : Int) + 1) = ((p.length + w.length + 2 : Nat) : Int) := wrap_succ (p.length + w.length + 1) (by omega)
        simp only [bellowsref09_Words.j3, if_true, if_pos h1, if_pos h2, hb, if_pos t36, hws, if_pos h4, hws2]
        have := hT s.length q1 p (w ++ [c, d]) s xs (Nat.le_refl _) q2 q3 (.inl (by simp))
        simp only [List.append_assoc, List.length_append, List.length_cons, List.length_nil, List.cons_append, List.nil_append] at this
        have e3 : p.length + (w.length + (0 + 1 + 1)) = p.length + w.length + 2 := by omega
        rw [e3] at this
        subst c36
        exact Ev.eqn this (by rw [go_pair])
    · have t36 : ¬ (c.toNat : Int) = 36 := byte_ne (d := 36) c36
      simp only [bellowsref09_Words.j3, if_true, if_pos h1, if_pos h2, hb, if_neg t36, hws]
      have := hT s.length (by omega) p (w ++ [c]) s xs (Nat.le_refl _) (by simp only [List.length_append, List.length_cons, List.length_nil]; omega) (by simp only [List.length_append, List.length_cons, List.length_nil]; omega) (.inl (by simp))
      simp only [List.append_assoc, List.length_append, List.length_cons, List.length_nil, List.cons_append, List.nil_append, ← Nat.add_assoc] at this
      exact Ev.eqn this (by rw [go_plain c s w (.inl c36) c124 c58 c32])

theorem ref_both (n : Nat) : RefS n ∧ RefT n := by
  induction n using Nat.strongRecOn with
  | _ n ih =>
  have hH : RefH n := ref_h (fun m hm => (ih m hm).1)
  have hT : RefT n := ref_t hH (fun m hm => (ih m hm).2)
  refine ⟨?_, hT⟩
  intro p s xs hs hp hx
  by_cases hsp : ∀ c s', s = c :: s' → c = 32 ∨ c = 58 ∨ c = 124
  · exact hH p s xs hs hp hx hsp
  · obtain ⟨c, s', rfl, hc⟩ : ∃ c s', s = c :: s' ∧ ¬ (c = 32 ∨ c = 58 ∨ c = 124) := by
      refine Classical.byContradiction fun h => hsp fun c s' e => Classical.byContradiction fun hc => h ⟨c, s', e, hc⟩
    have c32 : c ≠ 32 := fun e => hc (.inl e)
    have c58 : c ≠ 58 := fun e => hc (.inr (.inl e))
    have c124 : c ≠ 124 := fun e => hc (.inr (.inr e))
    simp only [List.length_cons] at hs hp hx
    have h1 : (p.length : Int) < ((B (p ++ c :: s')).size : Int) := by rw [size_B]; simp; omega
    have h2 : (0 : Int) ≤ (p.length : Int) := by omega
    have t32 : ¬ (c.toNat : Int) = 32 := byte_ne (d := 32) c32
    have t58 : ¬ (c.toNat : Int) = 58 := byte_ne (d := 58) c58
    have t124 : ¬ (c.toNat : Int) = 124 := byte_ne (d := 124) c124
    refine Ev.unroll ?_
    simp only [bellowsref09_Words.l0, if_pos h1, if_pos h2, bt_mid, if_neg t32, if_neg t58, if_neg t124]
    refine Ev.unroll ?_
    simp only [bellowsref09_Words.j1, Bool.false_eq_true, if_false, if_pos h1, if_pos h2, bt_mid, if_neg t124]
    have := hT p [] (c :: s') xs (by simp only [List.length_append, List.length_cons, List.length_nil]; omega) (by simp only [List.length_append, List.length_cons, List.length_nil]; omega) (by simp only [List.length_append, List.length_cons, List.length_nil]; omega) (.inr ⟨c, s', rfl, c32, c58, c124⟩)
    simpa using this

theorem ref_words (s : List UInt8) (h : s.length < 60000) : Ev (fun k => bellowsref09_Words.f k (B s)) ((words s).map B) := by
  have := (ref_both s.length).1 [] s [] (Nat.le_refl _) (by simpa using h) (by simpa using h)
  simpa [bellowsref09_Words.f, words] using this
end Go.Proofs.Ytlkoodikflflpaa.P
