/- ScopeEscapes and ScopeBack walked: they answer true. -/
import Derived.Test.YtlpjhpdgjeiioaaEscape
import Derived.Test.YtlpjhpdgjeiioaaScopeLight
import Derived.Test.YtlpjhpdgjeiioaaPBellowsref10Escape0
set_option linter.unusedSimpArgs false
set_option linter.unusedVariables false
namespace Go.Proofs.Ytlpjhpdgjeiioaa.Sc
open Go.RowKit Go.Lib Go.Shelf Go.Maps Go.Proofs.YtlpjhpdgjeiioaaW.PrintWords Go.Proofs.Ytlpjhpdgjeiioaa.U Go.Proofs.Ytlpjhpdgjeiioaa.Idx Go.Proofs.Ytlpjhpdgjeiioaa.Bld Go.Proofs.Ytlpjhpdgjeiioaa.P Go.Proofs.Ytlpjhpdgjeiioaa.Rep

theorem ref_escape_go : ∀ (r p out : List UInt8), (p ++ r).length ≤ 1000000 → out.length ≤ 2 * p.length →
    Ev (fun k => bellowsref10_Escape.l0 k (B (p ++ r)) (B out) (p.length : Int)) (B (out ++ escL r)) := by
  intro r
  induction r with
  | nil =>
    intro p out _ _
    refine Ev.unroll (Ev.some fun k => ?_)
    rw [bellowsref10_Escape.l0, size_B, if_neg (by simp), escL, List.append_nil]
  | cons c t ih =>
    intro p out hp ho
    have hp' : p.length + t.length + 1 ≤ 1000000 := by simp at hp; omega
    have hw := wrapH p.length (by omega)
    have hb : bt (B (p ++ c :: t)) (p.length : Int) = (c.toNat : Int) := bt_mid _ _ _
    have e1 : ((p ++ c :: t).take (p.length + 1)).drop p.length = [c] := by rw [List.take_length_add_append]; simp
    have hB36 : (⟨#[36]⟩ : ByteArray) = B [36] := rfl
    have i1 : ((p.length : Nat) : Int) < ((p ++ c :: t).length : Int) := by simp; omega
    have i2 : (0 : Int) ≤ (p.length : Int) := by omega
    have i3 : (p.length : Int) ≤ ((p.length + 1 : Nat) : Int) := by omega
    have i4 : ((p.length + 1 : Nat) : Int) ≤ ((p ++ c :: t).length : Int) := by simp; omega
    have i5 : out.length + 1 ≤ 9223372036854775807 := by omega
    have i6 : (out ++ [36]).length + ([c] : List UInt8).length ≤ 9223372036854775807 := by simp; omega
    have i7 : out.length + ([c] : List UInt8).length ≤ 9223372036854775807 := by simp; omega
    rw [escL]
    by_cases he : escB c = true
    · rw [if_pos he]
      have h' := ih (p ++ [c]) (out ++ [36, c]) (by simpa using hp) (by simp; omega)
      rw [List.append_assoc, List.singleton_append, List.length_append, List.length_singleton] at h'
      rw [show out ++ 36 :: c :: escL t = out ++ [36, c] ++ escL t by simp]
      refine Ev.unroll (Ev.congr (fun k => ?_) h')
      have eo : B out ++ (⟨#[36]⟩ : ByteArray) ++ B [c] = B (out ++ [36, c]) := by rw [hB36, B_append, B_append]; simp
      have eq1 : (c.toNat : Int) = 36 ∨ (¬ (c.toNat : Int) = 36 ∧ (c.toNat : Int) = 32) ∨ (¬ (c.toNat : Int) = 36 ∧ ¬ (c.toNat : Int) = 32 ∧ (c.toNat : Int) = 58) ∨ (¬ (c.toNat : Int) = 36 ∧ ¬ (c.toNat : Int) = 32 ∧ ¬ (c.toNat : Int) = 58 ∧ (c.toNat : Int) = 124) := by
        rcases (escB_iff c).1 he with h | h | h | h <;> subst h <;> decide
      rw [bellowsref10_Escape.l0, size_B, if_pos i1, if_pos i2, hb, hw.out, Int.toNat_natCast, Int.toNat_natCast, extract_B, e1, size_B, eo]
      have es : (B out ++ (⟨#[36]⟩ : ByteArray)).size + (B [c]).size = (out ++ [36]).length + ([c] : List UInt8).length := by rw [hB36, B_append, size_B, size_B]
      rw [es]
      rcases eq1 with q | ⟨q1, q⟩ | ⟨q1, q2, q⟩ | ⟨q1, q2, q3, q⟩
      · rw [if_pos q, if_pos i5, if_pos i3, if_pos i4, if_pos i6]
      · rw [if_neg q1, if_pos q, if_pos i5, if_pos i3, if_pos i4, if_pos i6]
      · rw [if_neg q1, if_neg q2, if_pos q, if_pos i5, if_pos i3, if_pos i4, if_pos i6]
      · rw [if_neg q1, if_neg q2, if_neg q3, if_pos q, if_pos i5, if_pos i3, if_pos i4, if_pos i6]
    · rw [if_neg he]
      have h' := ih (p ++ [c]) (out ++ [c]) (by simpa using hp) (by simp; omega)
      rw [List.append_assoc, List.singleton_append, List.length_append, List.length_singleton] at h'
      rw [show out ++ c :: escL t = out ++ [c] ++ escL t by simp]
      refine Ev.unroll (Ev.congr (fun k => ?_) h')
      have hne : ∀ n : Nat, n < 256 → escB (UInt8.ofNat n) = true → ¬ (c.toNat : Int) = (n : Int) := fun n hn hq e => he (by rw [(toNat_eq c n hn).1 e]; exact hq)
      have q1 : ¬ (c.toNat : Int) = 36 := hne 36 (by decide) (by decide)
      have q2 : ¬ (c.toNat : Int) = 32 := hne 32 (by decide) (by decide)
      have q3 : ¬ (c.toNat : Int) = 58 := hne 58 (by decide) (by decide)
      have q4 : ¬ (c.toNat : Int) = 124 := hne 124 (by decide) (by decide)
      rw [bellowsref10_Escape.l0, size_B, if_pos i1, if_pos i2, hb, hw.out, Int.toNat_natCast, Int.toNat_natCast, extract_B, e1, if_neg q1, if_neg q2, if_neg q3, if_neg q4, if_pos i3, if_pos i4, size_B, size_B, if_pos i7, B_append]
theorem refEscape_any (s : List UInt8) (hs : s.length ≤ 3000) (W : World) :
    Calls Try.prog 20 #[.string (B s)] W fun e w' => e = .returned (.string (B (escL s))) ∧ Below W.heap.size W w' := by
  obtain ⟨K, hK⟩ := ref_escape_go s [] [] (by simp; omega) (by simp)
  exact (bellowsref10_Escape.calls K (B s) (B (escL s)) W (hK K (Nat.le_refl _))).mono fun e w' h => ⟨h.1, h.2.below⟩
theorem refName3000 (l : List UInt8) (hl : l.length ≤ 3000) (W : World) : Calls Try.prog 21 #[.string (B l)] W fun e w' => e = .returned (.bool (nameL l)) ∧ Below W.heap.size W w' := by
  obtain ⟨K, hK⟩ := ref_name l (by omega)
  exact (bellowsref10_Name.calls K (B l) (nameL l) W (hK K (Nat.le_refl _))).mono fun e w' h => ⟨h.1, h.2.below⟩
set_option maxRecDepth 100000 in
set_option maxHeartbeats 4000000 in
theorem escapes_any (ta : List UInt8) (w : World) :
    Calls Try.prog 7 #[.string (B ta)] w fun e w' => e = .returned (.bool true) ∧ Below w.heap.size w w' := by
  have z1 : (B ta).size = ta.length := size_B _
  by_cases h1 : ta.length ≤ 3000
  · have t1 : decide ((3000 : Int) < (ta.length : Int)) = false := by rw [decide_eq_false_iff_not]; omega
    have hAw := Lib.hid awake_any
    have hEs := Lib.hid (fun W => Escape_any ta (by omega) W)
    have hRe := Lib.hid (fun W => refEscape_any ta h1 W)
    have hNm := Lib.hid (fun W => Name_any ta W)
    have hRn := Lib.hid (fun W => refName3000 ta h1 W)
    generalize escL ta = ea at *
    generalize nameL ta = na at *
    go_enter Try.func7, Try.ntmps7
    go_wp2_with fail
    refine (hEs.out _).mono ?_
    rintro e w1 ⟨rfl, hb1⟩
    have hB1 := Lib.hid hb1
    go_wp2_with fail
    refine (hRe.out _).mono ?_
    rintro e w2 ⟨rfl, hb2⟩
    have hB2 := Lib.hid (hB1.out.next hb2)
    clear hb1 hb2
    go_wp2_with fail
    refine (hNm.out _).mono ?_
    rintro e w3 ⟨rfl, hb3⟩
    have hB3 := Lib.hid (hB2.out.next hb3)
    clear hb3
    go_wp2_with fail
    refine (hRn.out _).mono ?_
    rintro e w4 ⟨rfl, hb4⟩
    have hB4 := Lib.hid (hB3.out.next hb4)
    clear hb4
    go_wp2_with fail
    refine (hAw.out _).mono ?_
    rintro e w5 ⟨rfl, hb5⟩
    go_wp2_with fail
    go_ret
    exact ⟨rfl, hB4.out.next hb5⟩
  · have t1 : decide ((3000 : Int) < (ta.length : Int)) = true := by rw [decide_eq_true_iff]; omega
    go_enter Try.func7, Try.ntmps7
    go_wp2_with fail
    go_ret
    exact ⟨rfl, Below.refl _ _⟩
set_option maxRecDepth 100000 in
set_option maxHeartbeats 8000000 in
theorem back_any (l : List SetT) (a : Option Addr) (cap : Nat) (ta : List UInt8) (w : World) (hA : SetsAt w a l) :
    Calls Try.prog 8 #[.slice a l.length cap, .string (B ta)] w fun e w' => e = .returned (.bool true) ∧ Below w.heap.size w w' := by
  obtain ⟨n, hn⟩ : ∃ n, l.length = n := ⟨_, rfl⟩
  have hLi := Lib.hid (light_any l a cap w hA)
  have hAw := Lib.hid awake_any
  have z1 : (B ta).size = ta.length := size_B _
  cases hlt0 : lightB l with
  | false =>
    rw [hlt0, hn] at hLi
    rw [hn]
    clear hA
    go_enter Try.func8, Try.ntmps8
    go_wp2_with fail
    refine hLi.out.mono ?_
    rintro e w1 ⟨rfl, rfl⟩
    go_wp2_with fail
    go_ret
    exact ⟨rfl, Below.refl _ _⟩
  | true =>
    obtain ⟨hn30, hsz⟩ := light_facts hlt0
    have hBt := Lib.hid (built_any l hn30 hsz a cap w hA)
    rw [hlt0, hn] at hLi
    by_cases h1 : ta.length ≤ 3000
    · have t1 : decide ((3000 : Int) < (ta.length : Int)) = false := by rw [decide_eq_false_iff_not]; omega
      have hT := Lib.hid (fun k => levs_small (M := 5000) (S := w.heap.size) (i := n) (built_small l (fun s hs => (hsz s hs).2)) k)
      rw [hn] at hn30 hBt ⊢
      clear hA hsz
      generalize builtS l = st at *
      have hlen : (escL ta).length ≤ 6000 := by rw [escL_len]; have := List.countP_le_length (p := escB) (l := ta); omega
      have hEs := Lib.hid (fun W => Escape_any ta (by omega) W)
      have hEx := Lib.hid (fun W hC => Expand_any (levs w.heap.size n st) (.pointer (some ⟨w.heap.size + 5, 0, none⟩)) (escL ta) (by omega) (fun k => Nat.lt_of_le_of_lt (hT.out k) (by omega)) W hC)
      rw [expand_esc _ _ h1] at hEx
      generalize escL ta = ea at *
      clear hT hlen
      go_enter Try.func8, Try.ntmps8
      go_wp2_with fail
      refine hLi.out.mono ?_
      rintro e w1 ⟨rfl, rfl⟩
      go_wp2_with fail
      refine hBt.out.mono ?_
      rintro e w2 ⟨V, rfl, htri, hsix, hb2⟩
      have hC2 := Lib.hid htri.chain
      have hB2 := Lib.hid hb2
      clear htri hsix hb2 hLi hBt
      go_wp2_with fail
      refine (hEs.out _).mono ?_
      rintro e w3 ⟨rfl, hb3⟩
      have hC3 := Lib.hid (hC2.out.below hb3)
      have hB3 := Lib.hid (hB2.out.next hb3)
      clear hb3
      go_wp2_with fail
      refine (hEx.out _ hC3.out).mono ?_
      rintro e w4 ⟨rfl, hb4⟩
      have hB4 := Lib.hid (hB3.out.next hb4)
      clear hb4
      go_wp2_with fail
      refine (hAw.out _).mono ?_
      rintro e w5 ⟨rfl, hb5⟩
      go_wp2_with fail
      go_ret
      exact ⟨rfl, hB4.out.next hb5⟩
    · have t1 : decide ((3000 : Int) < (ta.length : Int)) = true := by rw [decide_eq_true_iff]; omega
      rw [hn]
      clear hA hsz
      go_enter Try.func8, Try.ntmps8
      go_wp2_with fail
      refine hLi.out.mono ?_
      rintro e w1 ⟨rfl, rfl⟩
      go_wp2_with fail
      go_ret
      exact ⟨rfl, Below.refl _ _⟩
end Go.Proofs.Ytlpjhpdgjeiioaa.Sc
namespace Go.Proofs.Ytlpjhpdgjeiioaa.P
open Go.RowKit Go.Proofs.Ytlpjhpdgjeiioaa.U Go.Proofs.Ytlpjhpdgjeiioaa.Sc
theorem bellowslaw10_ScopeEscapes.walk (a1 : ByteArray) (w : World) (w1 : a1.size ≤ 140737488351232) :
    Calls Try.prog 7 #[.string a1] w fun e w' => e = .returned (.bool true) ∧ Below w.heap.size w w' := by
  obtain ⟨ta, rfl⟩ := B_surj a1
  exact escapes_any ta w
theorem bellowslaw10_ScopeBack.walk (a : Option Addr) (len cap : Nat) (l : List SetT) (a1 : ByteArray) (w : World) (h : l.length = len ∧ len ≤ cap ∧ SetsAt w a l) (w1 : a1.size ≤ 140737488351232) :
    Calls Try.prog 8 #[.slice a len cap, .string a1] w fun e w' => e = .returned (.bool true) ∧ Below w.heap.size w w' := by
  obtain ⟨ta, rfl⟩ := B_surj a1
  obtain ⟨rfl, _, hA⟩ := h
  exact back_any l a cap ta w hA
end Go.Proofs.Ytlpjhpdgjeiioaa.P
