/- bellowslaw10.light walked: are sets few, and short? -/
import Derived.Test.YtlpjhpdgjeiioaaScopeBuilt
set_option linter.unusedSimpArgs false
set_option linter.unusedVariables false
namespace Go.Proofs.Ytlpjhpdgjeiioaa.Sc
open Go.RowKit Go.Lib Go.Shelf Go.Maps Go.Proofs.YtlpjhpdgjeiioaaW.PrintWords Go.Proofs.Ytlpjhpdgjeiioaa.U Go.Proofs.Ytlpjhpdgjeiioaa.Idx Go.Proofs.Ytlpjhpdgjeiioaa.Bld

def okS (s : SetT) : Bool := decide (s.name.length ≤ 300) && decide (s.text.length ≤ 5000)
def lightB (l : List SetT) : Bool := decide (l.length ≤ 30) && l.all okS
set_option maxRecDepth 100000 in
set_option maxHeartbeats 4000000 in
theorem light_any (l : List SetT) (a : Option Addr) (cap : Nat) (w : World) (hA : SetsAt w a l) :
    Calls Try.prog 9 #[.slice a l.length cap] w fun e w' => e = .returned (.bool (lightB l)) ∧ w = w' := by
  obtain ⟨n, hn⟩ : ∃ n, l.length = n := ⟨_, rfl⟩
  unfold lightB
  rw [hn]
  have hAH := Lib.hid hA
  clear hA
  by_cases hl : n ≤ 30
  · have t1 : decide ((30 : Int) < (n : Int)) = false := by rw [decide_eq_false_iff_not]; omega
    rw [decide_eq_true hl, Bool.true_and]
    obtain ⟨b, hb⟩ : ∃ b, l.all okS = b := ⟨_, rfl⟩
    rw [hb]
    have hbH := Lib.hid hb
    clear hb
    go_enter Try.func9, Try.ntmps9
    go_wp2_with fail
    go_loopg [3] n (fun gk s3 wr => ∃ i : Nat, s3 = .int .i64 (i : Int) ∧ i + gk = n ∧ Hid ((l.take i).all okS = true) ∧ w = wr)
    case atStart => exact ⟨0, rfl, Nat.zero_add _, rfl, rfl⟩
    case round =>
      obtain ⟨i, rfl, hik, hP, rfl⟩ := hrel
      cases gk with
      | zero =>
        obtain rfl : i = n := by omega
        have hlt : decide ((i : Int) < (i : Int)) = false := by simp
        have hbt : b = true := by
          rw [← hbH.out, ← hP.out, List.take_of_length_le (by omega)]
        subst hbt
        go_wp2_with fail
        go_ret
        exact ⟨rfl, rfl⟩
      | succ gk =>
        have hin : i < l.length := by omega
        have hlt : decide ((i : Int) < (n : Int)) = true := by rw [decide_eq_true_iff]; omega
        obtain ⟨s, hs⟩ : ∃ s, l[i] = s := ⟨_, rfl⟩
        obtain ⟨x, rfl, hxb, d0, d1, d2, hv0, hv1⟩ := hAH.out i hin
        rw [hs] at d0 d1 d2 hv0 hv1
        have htk : l.take (i + 1) = l.take i ++ [s] := by rw [List.take_succ_eq_append_getElem hin, hs]
        have hall : okS s = false → b = false := fun h => by
          rw [← hbH.out, ← List.take_append_drop (i + 1) l, List.all_append, htk, List.all_append]; simp [h]
        have hbad : Hid (okS s = false → b = false) := hall
        have z1 : (B s.name).size = s.name.length := size_B _
        have z2 : (B s.text).size = s.text.length := size_B _
        clear hall
        by_cases h1 : s.name.length ≤ 300
        · have t2 : decide ((300 : Int) < (s.name.length : Int)) = false := by rw [decide_eq_false_iff_not]; omega
          by_cases h2 : s.text.length ≤ 5000
          · have t3 : decide ((5000 : Int) < (s.text.length : Int)) = false := by rw [decide_eq_false_iff_not]; omega
            have hP2 : Hid ((l.take (i + 1)).all okS = true) := by
              show _ = _
              rw [htk, List.all_append, hP.out]; simp [okS, h1, h2]
            clear htk hs
            go_wp2_with fail
            go_roundg gk
            case measure => omega
            case rel => exact ⟨i + 1, by first | rfl | simp, by omega, hP2, rfl⟩
          · have t3 : decide ((5000 : Int) < (s.text.length : Int)) = true := by rw [decide_eq_true_iff]; omega
            have hbf : b = false := hbad.out (by unfold okS; rw [decide_eq_false h2, Bool.and_false])
            subst hbf
            clear htk hs
            go_wp2_with fail
            go_ret
            exact ⟨rfl, rfl⟩
        · have t2 : decide ((300 : Int) < (s.name.length : Int)) = true := by rw [decide_eq_true_iff]; omega
          have hbf : b = false := hbad.out (by unfold okS; rw [decide_eq_false h1, Bool.false_and])
          subst hbf
          clear htk hs
          go_wp2_with fail
          go_ret
          exact ⟨rfl, rfl⟩
  · have t1 : decide ((30 : Int) < (n : Int)) = true := by rw [decide_eq_true_iff]; omega
    rw [decide_eq_false hl, Bool.false_and]
    go_enter Try.func9, Try.ntmps9
    go_wp2_with fail
    go_ret
    exact ⟨rfl, rfl⟩

def St.small (M : Nat) (st : St) : Prop := ∀ j k t, st.m j k = some t → t.length ≤ M
theorem St.small_step {M : Nat} {st : St} (h : St.small M st) (s : SetT) (hs : s.text.length ≤ M) : St.small M (st.step s) := by
  unfold St.step
  split
  · intro j k t ht
    unfold St.put at ht
    simp only at ht
    split at ht
    · unfold upd at ht
      split at ht
      · cases ht; exact hs
      · exact h _ _ _ ht
    · exact h _ _ _ ht
  · exact h
theorem built_small {M : Nat} (l : List SetT) (h : ∀ s ∈ l, s.text.length ≤ M) : St.small M (builtS l) := by
  have go : ∀ (l : List SetT) (st : St), (∀ s ∈ l, s.text.length ≤ M) → St.small M st → St.small M (l.foldl St.step st) := by
    intro l
    induction l with
    | nil => intro st _ h; exact h
    | cons s l ih => intro st hl h; rw [List.foldl_cons]; exact ih _ (fun x hx => hl x (by simp [hx])) (St.small_step h s (hl s (by simp)))
  exact go l St.init h (fun j k t ht => by simp [St.init, none0] at ht)
theorem levs_small {M S i : Nat} {st : St} (h : St.small M st) (k : Txt) : (getL (levs S i st) k).length ≤ M := by
  have go : ∀ (L : List Lev), (∀ s ∈ L, ∀ k t, s.m k = some t → t.length ≤ M) → (getL L k).length ≤ M := by
    intro L
    induction L with
    | nil => intro _; simp [getL]
    | cons s L ih =>
      intro hL
      rw [getL]
      split
      · rename_i t ht; exact hL s (by simp) k t ht
      · exact ih (fun s hs => hL s (by simp [hs]))
  refine go _ fun s hs k t ht => ?_
  simp only [levs, List.mem_cons, List.not_mem_nil, or_false] at hs
  rcases hs with rfl | rfl | rfl
  · exact h 0 k t ht
  · exact h 1 k t ht
  · exact h 2 k t ht
theorem light_facts {l : List SetT} (h : lightB l = true) : l.length ≤ 30 ∧ ∀ s ∈ l, s.name.length ≤ 300 ∧ s.text.length ≤ 5000 := by
  unfold lightB at h
  rw [Bool.and_eq_true, decide_eq_true_iff, List.all_eq_true] at h
  refine ⟨h.1, fun s hs => ?_⟩
  have := h.2 s hs
  simpa [okS] using this
end Go.Proofs.Ytlpjhpdgjeiioaa.Sc
