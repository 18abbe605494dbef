/- LexAgain: the words of any text, joined by blanks, are its words (where none ends with a dollar); for every text (of more than 1000 bytes the law says nothing). -/
import Derived.Test.YtlkoodikflflpaaLexLaw
import Derived.Test.YtlkoodikflflpaaPBellowslaw09LexAgain0
set_option linter.unusedSimpArgs false
set_option linter.unusedVariables false
namespace Go.Proofs.Ytlkoodikflflpaa.Pure
open Go.RowKit Go.Proofs.Ytlkoodikflflpaa.P Go.Proofs.YtlkoodikflflpaaW.PrintWords Go.Proofs.YtlkoodikflflpaaW.PrintLast Go.Proofs.Ytlkoodikflflpaa.U Go.Proofs.Ytlkoodikflflpaa.Lex

theorem total_mem {x : List UInt8} {l : List (List UInt8)} (h : x ∈ l) : x.length ≤ total l := by
  induction l with
  | nil => cases h
  | cons a l ih =>
    rw [total_cons]
    rcases List.mem_cons.1 h with rfl | h
    · omega
    · have := ih h; omega
theorem joined_len (l : List (List UInt8)) : (joined l).length = l.length + total l := by
  induction l with
  | nil => rfl
  | cons a l ih => rw [total_cons, List.length_cons]; simp [joined] at ih ⊢; omega
theorem joined_snoc (l : List (List UInt8)) (x : List UInt8) : joined (l ++ [x]) = joined l ++ (32 :: x) := by simp [joined]
theorem last_wrap (x : List UInt8) (h : x ≠ []) (hb : x.length < 60000) : wrap64 (((B x).size : Int) - 1) = ((x.length - 1 : Nat) : Int) := by
  have hp := List.length_pos_iff.2 h
  rw [size_B, wrap_id _ (by omega) (by omega)]; omega
theorem last_byte (x : List UInt8) (h : x ≠ []) (hb : x.length < 60000) : bt (B x) (wrap64 (((B x).size : Int) - 1)) = ((x.getLast h).toNat : Int) := by
  have hp := List.length_pos_iff.2 h
  have e : wrap64 (((B x).size : Int) - 1) = ((x.length - 1 : Nat) : Int) := by
    rw [size_B, wrap_id _ (by omega) (by omega)]; omega
  rw [e, bt_B _ _ (by omega), List.getLast_eq_getElem]

theorem loop (ws : List (List UInt8)) (hW : ∀ w ∈ ws, Word w) (hn : ws.length + total ws < 60000) (d : Nat) : ∀ (l r : List (List UInt8)), ws = l ++ r → r.length = d → (∀ w ∈ l, w.getLast? ≠ some 36) →
    Ev (fun k => bellowslaw09_LexAgain.l0 k (ws.map B) (B (joined l)) (l.length : Int)) true := by
  induction d with
  | zero =>
    intro l r hl hr h36
    obtain rfl : r = [] := List.length_eq_zero_iff.1 hr
    rw [List.append_nil] at hl
    subst hl
    refine Ev.unroll ?_
    have h1 : ¬ (ws.length : Int) < ((ws.map B).length : Int) := by rw [List.length_map]; omega
    have hj := joined_len ws
    simp only [bellowslaw09_LexAgain.l0, if_neg h1, words_f (joined ws) (by omega), words_joined ws hW h36, Option.bind_some]
    refine Ev.bind (same_self _ (by rw [List.length_map]; omega)) ?_
    simp only [if_true]
    exact Ev.bind awake_true (Ev.now _)
  | succ d ih =>
    intro l r hl hr h36
    obtain ⟨x, r, rfl⟩ : ∃ x r', r = x :: r' := by cases r with | nil => simp at hr | cons x r => exact ⟨x, r, rfl⟩
    have hmem : x ∈ ws := by rw [hl]; simp
    have hx := (hW x hmem).ne_nil
    have hxl := total_mem hmem
    have hpos := List.length_pos_iff.2 hx
    have hlen : ws.length = l.length + (r.length + 1) := by rw [hl]; simp
    have htot : total ws = total l + (x.length + total r) := by rw [hl, total_append, total_cons]
    have hj := joined_len l
    have hrd : rdOf ByteArray.empty (ws.map B) (l.length : Int) = B x := by
      rw [rdOf_B _ _ (by rw [List.length_map]; omega)]; simp [hl]
    have hx6 : x.length < 60000 := by omega
    have hw := wrapH l.length (by omega)
    refine Ev.unroll ?_
    have h1 : (l.length : Int) < ((ws.map B).length : Int) := by rw [List.length_map]; omega
    have h2 : (0 : Int) ≤ (l.length : Int) := by omega
    have e : Hid (wrap64 (((B x).size : Int) - 1) = ((x.length - 1 : Nat) : Int)) := last_wrap x hx hx6
    have h3 : Hid (0 ≤ wrap64 (((B x).size : Int) - 1)) := by show 0 ≤ wrap64 (((B x).size : Int) - 1); rw [e.out]; omega
    have h4 : Hid (wrap64 (((B x).size : Int) - 1) < ((B x).size : Int)) := by show wrap64 (((B x).size : Int) - 1) < ((B x).size : Int); rw [e.out, size_B]; omega
    have h6 : 1 + (B x).size ≤ 9223372036854775807 := by rw [size_B]; omega
    have h7 : (B (joined l)).size + (B (32 :: x)).size ≤ 9223372036854775807 := by
      rw [size_B, size_B, List.length_cons]; omega
    have hlast := last_byte x hx hx6
    simp only [bellowslaw09_LexAgain.l0, if_pos h1, if_pos h2, hrd, toList_B, if_neg hx, if_pos h3.out, if_pos h4.out, hlast]
    by_cases h5 : x.getLast hx = 36
    · have t : ((x.getLast hx).toNat : Int) = 36 := by rw [h5]; rfl
      simp only [if_pos t]
      exact Ev.bind awake_true (Ev.now _)
    · have t : ¬ ((x.getLast hx).toNat : Int) = 36 := byte_ne (d := 36) h5
      have e2 : (⟨#[32]⟩ : ByteArray) ++ B x = B (32 :: x) := B_append [32] x
      simp only [if_neg t, e2, if_pos h6, if_pos h7, hw.out, B_append, ← joined_snoc]
      have := ih (l ++ [x]) r (by rw [hl]; simp) (by simpa using hr) (by
        intro w hw'
        rcases List.mem_append.1 hw' with hw' | hw'
        · exact h36 w hw'
        · obtain rfl : w = x := by simpa using hw'
          rw [List.getLast?_eq_some_getLast hx]
          intro e; exact h5 (Option.some.inj e))
      simpa using this

theorem LexAgain : bellowslaw09_LexAgain.Pure := by
  intro a0 _
  obtain ⟨s, rfl⟩ := B_surj a0
  refine Ev.rounds ?_
  by_cases h : ((B s).size : Int) > 1000
  · simp only [bellowslaw09_LexAgain.f, if_pos h]; exact Ev.now _
  · have hs : s.length ≤ 1000 := by rw [size_B] at h; omega
    have hl := words_len s
    have ht := words_total s
    simp only [bellowslaw09_LexAgain.f, if_neg h, words_f s (by omega), Option.bind_some]
    exact loop (words s) (words_word s) (by omega) _ [] (words s) rfl rfl (by simp)
end Go.Proofs.Ytlkoodikflflpaa.Pure
