-- printed by wip/tools/pr.py, a program of this session's, with the kit's print.py
import Derived.Test.YtlkoodikflflpaaP0
namespace Go.Proofs.Ytlkoodikflflpaa.P
open Go.RowKit Go.Proofs.YtlkoodikflflpaaW.PrintWords Go.Proofs.YtlkoodikflflpaaW.PrintLast Go.Proofs.YtlkoodikflflpaaW.PrintMore
attribute [local go_sem] max2_int min2_int max_two min_two max_three min_three max_four min_four
set_option linter.unusedVariables false
set_option linter.unusedSimpArgs false

/-! ### bellowsref09_Words: function 6 -/
mutual
def bellowsref09_Words.l0 : Nat → ByteArray → List ByteArray → Int → Option (List ByteArray)
  | 0, _, _, _ => none
  | k + 1, x0, x3, x4 => if x4 < (x0.size : Int) then (if 0 ≤ x4 then (if (bt x0 x4) = 32 then (bellowsref09_Words.l0 k x0 x3 (wrap64 (x4 + 1))) else (if (bt x0 x4) = 58 then (if x3.length < 8796093022208 then (bellowsref09_Words.l0 k x0 (x3 ++ [(⟨#[58]⟩ : ByteArray)]) (wrap64 (x4 + 1))) else (none)) else (if (bt x0 x4) = 124 then (if (wrap64 (x4 + 1)) < (x0.size : Int) then (if 0 ≤ (wrap64 (x4 + 1)) then (bellowsref09_Words.j1 k x0 x3 x4 ((bt x0 (wrap64 (x4 + 1))) == 124)) else (none)) else (bellowsref09_Words.j1 k x0 x3 x4 false)) else (bellowsref09_Words.j1 k x0 x3 x4 false)))) else (none)) else (some x3)
def bellowsref09_Words.j1 : Nat → ByteArray → List ByteArray → Int → Bool → Option (List ByteArray)
  | 0, _, _, _, _ => none
  | k + 1, x0, x3, x4, x73 => if x73 = true then (if x3.length < 8796093022208 then (bellowsref09_Words.l0 k x0 (x3 ++ [(⟨#[124, 124]⟩ : ByteArray)]) (wrap64 (x4 + 2))) else (none)) else (if 0 ≤ x4 then (if x4 < (x0.size : Int) then (if (bt x0 x4) = 124 then (if x3.length < 8796093022208 then (bellowsref09_Words.l0 k x0 (x3 ++ [(⟨#[124]⟩ : ByteArray)]) (wrap64 (x4 + 1))) else (none)) else (bellowsref09_Words.l1 k x0 x3 x4 x4)) else (none)) else (none))
def bellowsref09_Words.l1 : Nat → ByteArray → List ByteArray → Int → Int → Option (List ByteArray)
  | 0, _, _, _, _ => none
  | k + 1, x0, x3, x4, x5 => if x5 < (x0.size : Int) then (if 0 ≤ x5 then (if (bt x0 x5) = 32 then (bellowsref09_Words.j3 k x0 x3 x4 x5 false) else (if (bt x0 x5) = 58 then (bellowsref09_Words.j3 k x0 x3 x4 x5 false) else (bellowsref09_Words.j3 k x0 x3 x4 x5 ((bt x0 x5) != 124)))) else (none)) else (bellowsref09_Words.j3 k x0 x3 x4 x5 false)
def bellowsref09_Words.j3 : Nat → ByteArray → List ByteArray → Int → Int → Bool → Option (List ByteArray)
  | 0, _, _, _, _, _ => none
  | k + 1, x0, x3, x4, x5, x32 => if x32 = true then (if 0 ≤ x5 then (if x5 < (x0.size : Int) then (if (bt x0 x5) = 36 then (if (wrap64 (x5 + 1)) < (x0.size : Int) then (bellowsref09_Words.l1 k x0 x3 x4 (wrap64 ((wrap64 (x5 + 1)) + 1))) else (bellowsref09_Words.l1 k x0 x3 x4 (wrap64 (x5 + 1)))) else (bellowsref09_Words.l1 k x0 x3 x4 (wrap64 (x5 + 1)))) else (none)) else (none)) else (if 0 ≤ x4 then (if x4 ≤ x5 then (if x5 ≤ (x0.size : Int) then (if x3.length < 8796093022208 then (bellowsref09_Words.l0 k x0 (x3 ++ [x0.extract (x4 : Int).toNat (x5 : Int).toNat]) x5) else (none)) else (none)) else (none)) else (none))
end
def bellowsref09_Words.f (k : Nat) (a0 : ByteArray) : Option (List ByteArray) := bellowsref09_Words.l0 k a0 ([] : List ByteArray) 0
theorem bellowsref09_Words.mono_l : ∀ k, (∀ y0 y1 y2, LeO (bellowsref09_Words.l0 k y0 y1 y2) (bellowsref09_Words.l0 (k + 1) y0 y1 y2)) ∧ (∀ y0 y1 y2 y3, LeO (bellowsref09_Words.j1 k y0 y1 y2 y3) (bellowsref09_Words.j1 (k + 1) y0 y1 y2 y3)) ∧ (∀ y0 y1 y2 y3, LeO (bellowsref09_Words.l1 k y0 y1 y2 y3) (bellowsref09_Words.l1 (k + 1) y0 y1 y2 y3)) ∧ (∀ y0 y1 y2 y3 y4, LeO (bellowsref09_Words.j3 k y0 y1 y2 y3 y4) (bellowsref09_Words.j3 (k + 1) y0 y1 y2 y3 y4))
  | 0 => ⟨fun _ _ _ r h => by simp [bellowsref09_Words.l0] at h, fun _ _ _ _ r h => by simp [bellowsref09_Words.j1] at h, fun _ _ _ _ r h => by simp [bellowsref09_Words.l1] at h, fun _ _ _ _ _ r h => by simp [bellowsref09_Words.j3] at h⟩
  | k + 1 => by
    obtain ⟨ih0, ih1, ih2, ih3⟩ := bellowsref09_Words.mono_l k
    refine ⟨?_, ?_, ?_, ?_⟩
    · intro y0 y1 y2
      unfold bellowsref09_Words.l0
      repeat' first
      | (with_reducible exact ih0 _ _ _)
      | (with_reducible exact ih1 _ _ _ _)
      | (with_reducible exact ih2 _ _ _ _)
      | (with_reducible exact ih3 _ _ _ _ _)
      | (with_reducible exact LeO.refl _)
      | (with_reducible exact LeO.none _)
      | (with_reducible refine LeO.ite ?_ ?_)
      | (with_reducible refine LeO.bind ?_ (fun _ => ?_))
      | exact ih0 _ _ _
      | exact ih1 _ _ _ _
      | exact ih2 _ _ _ _
      | exact ih3 _ _ _ _ _
      | exact LeO.none _
      | refine LeO.ite ?_ ?_
      | refine LeO.bind ?_ (fun _ => ?_)
    · intro y0 y1 y2 y3
      unfold bellowsref09_Words.j1
      repeat' first
      | (with_reducible exact ih0 _ _ _)
      | (with_reducible exact ih1 _ _ _ _)
      | (with_reducible exact ih2 _ _ _ _)
      | (with_reducible exact ih3 _ _ _ _ _)
      | (with_reducible exact LeO.refl _)
      | (with_reducible exact LeO.none _)
      | (with_reducible refine LeO.ite ?_ ?_)
      | (with_reducible refine LeO.bind ?_ (fun _ => ?_))
      | exact ih0 _ _ _
      | exact ih1 _ _ _ _
      | exact ih2 _ _ _ _
      | exact ih3 _ _ _ _ _
      | exact LeO.none _
      | refine LeO.ite ?_ ?_
      | refine LeO.bind ?_ (fun _ => ?_)
    · intro y0 y1 y2 y3
      unfold bellowsref09_Words.l1
      repeat' first
      | (with_reducible exact ih0 _ _ _)
      | (with_reducible exact ih1 _ _ _ _)
      | (with_reducible exact ih2 _ _ _ _)
      | (with_reducible exact ih3 _ _ _ _ _)
      | (with_reducible exact LeO.refl _)
      | (with_reducible exact LeO.none _)
      | (with_reducible refine LeO.ite ?_ ?_)
      | (with_reducible refine LeO.bind ?_ (fun _ => ?_))
      | exact ih0 _ _ _
      | exact ih1 _ _ _ _
      | exact ih2 _ _ _ _
      | exact ih3 _ _ _ _ _
      | exact LeO.none _
      | refine LeO.ite ?_ ?_
      | refine LeO.bind ?_ (fun _ => ?_)
    · intro y0 y1 y2 y3 y4
      unfold bellowsref09_Words.j3
      repeat' first
      | (with_reducible exact ih0 _ _ _)
      | (with_reducible exact ih1 _ _ _ _)
      | (with_reducible exact ih2 _ _ _ _)
      | (with_reducible exact ih3 _ _ _ _ _)
      | (with_reducible exact LeO.refl _)
      | (with_reducible exact LeO.none _)
      | (with_reducible refine LeO.ite ?_ ?_)
      | (with_reducible refine LeO.bind ?_ (fun _ => ?_))
      | exact ih0 _ _ _
      | exact ih1 _ _ _ _
      | exact ih2 _ _ _ _
      | exact ih3 _ _ _ _ _
      | exact LeO.none _
      | refine LeO.ite ?_ ?_
      | refine LeO.bind ?_ (fun _ => ?_)
theorem bellowsref09_Words.mono : ∀ a0 k, LeO (bellowsref09_Words.f k a0) (bellowsref09_Words.f (k + 1) a0) := by
  intro a0 k
  obtain ⟨ih0, ih1, ih2, ih3⟩ := bellowsref09_Words.mono_l k
  unfold bellowsref09_Words.f
  repeat' first
      | (with_reducible exact ih0 _ _ _)
      | (with_reducible exact ih1 _ _ _ _)
      | (with_reducible exact ih2 _ _ _ _)
      | (with_reducible exact ih3 _ _ _ _ _)
      | (with_reducible exact LeO.refl _)
      | (with_reducible exact LeO.none _)
      | (with_reducible refine LeO.ite ?_ ?_)
      | (with_reducible refine LeO.bind ?_ (fun _ => ?_))
      | exact ih0 _ _ _
      | exact ih1 _ _ _ _
      | exact ih2 _ _ _ _
      | exact ih3 _ _ _ _ _
      | exact LeO.none _
      | refine LeO.ite ?_ ?_
      | refine LeO.bind ?_ (fun _ => ?_)
set_option maxHeartbeats 8000000 in
set_option maxRecDepth 100000 in
theorem bellowsref09_Words.calls (k : Nat) (a0 : ByteArray) (r : List ByteArray) (w : World) (h : bellowsref09_Words.f k a0 = some r) :
    Calls Try.prog 6 #[.string a0] w fun e w' => ∃ v0_ : Value, e = .returned (v0_) ∧ Kd.R Kd.string 9 w' w.heap.size (fun _ => True) v0_ r ∧ Below w.heap.size w w' := by
  have HB := Aside0.mk (Below.refl w.heap.size w)
  have H : (bellowsref09_Words.l0 k a0 ([] : List ByteArray) 0) = some r := h
  clear h
  have H' := Aside0.mk H
  clear H
  go_enter Try.func6, Try.ntmps6
  go_wp2
  go_loopg [3, 4] k (fun kq v3 v4 w' => ∃ (x3_1 : List ByteArray) (x4_1 : Int), v4 = .int .i64 x4_1 ∧ Aside0 (bellowsref09_Words.l0 kq a0 x3_1 x4_1 = some r) ∧ Aside0 (kq ≤ k) ∧ Aside0 (Kd.R Kd.string 9 w' w.heap.size (fun _ => True) v3 x3_1) ∧ Aside0 (Below w.heap.size w w'))
  case atStart => exact ⟨(([] : List ByteArray)), (0), (by first | rfl | (simp; done) | (simp [*]; done)), H', ⟨Nat.le_refl _⟩, ⟨by first | exact Kd.R_nil _ _ _ _ _ | exact Kd.N_nil _ _ _ _ _ | exact Kd.V_nil _ _ _ _ _ | exact Kd.Q_nil _ _ _ _ _ | exact Kd.S_nil _ _ _ _ _⟩, ⟨by repeat (first | (with_reducible first | exact HB.out | apply below_alloc | apply pw_below_drewN | apply below_drew1) | exact HB.out)⟩⟩
  case round =>
    clear H'
    obtain ⟨x3_1, x4_1, rfl, HA, HK1, HO_3, HB⟩ := hrel
    cases gk with
    | zero => exact absurd HA.out (by simp [bellowsref09_Words.l0])
    | succ k1 =>
      have H := HA.out
      clear HA
      simp only [bellowsref09_Words.l0] at H
      by_cases c2 : x4_1 < (a0.size : Int)
      · rw [if_pos c2] at H
        have c2b0 : decide (x4_1 < (a0.size : Int)) = true := decide_eq_true c2
        clear c2
        by_cases c3 : 0 ≤ x4_1
        · rw [if_pos c3] at H
          have c3b0 : decide (0 ≤ x4_1) = true := decide_eq_true c3
          clear c3
          by_cases c5 : (bt a0 x4_1) = 32
          · rw [if_pos c5] at H
            have c5b0 : ((bt a0 x4_1) == 32) = true := beq_iff_eq.mpr c5
            have c5b1 : ((bt a0 x4_1) != 32) = false := bne_eq_false_iff_eq.mpr c5
            clear c5
            have H' := Aside0.mk H
            clear H
            have p4 : 0 ≤ (x4_1 : Int) := of_decide_eq_true (by first | (with_reducible assumption) | assumption)
            have q4 : x4_1 < (a0.size : Int) := of_decide_eq_true (by first | (with_reducible assumption) | assumption)
            have hx4 := bt_at a0 x4_1
            replace p4 := eq_true p4
            replace q4 := eq_true q4
            go_wp2
            go_roundg k1
            case measure => have := HK1.out; omega
            case rel => exact ⟨(x3_1), (wrap64 (x4_1 + 1)), (by first | rfl | (simp; done) | (simp [*]; done)), H', ⟨by have := HK1.out; omega⟩, ⟨by (with_reducible repeat (first | apply Kd.R_alloc | apply Kd.R_drewN | apply Kd.R_drew)); exact HO_3.out⟩, ⟨by repeat (first | (with_reducible first | exact HB.out | apply below_alloc | apply pw_below_drewN | apply below_drew1) | exact HB.out)⟩⟩
          · rw [if_neg c5] at H
            have c5b0 : ((bt a0 x4_1) == 32) = false := beq_eq_false_iff_ne.mpr c5
            have c5b1 : ((bt a0 x4_1) != 32) = true := bne_iff_ne.mpr c5
            by_cases c7 : (bt a0 x4_1) = 58
            · rw [if_pos c7] at H
              have c7b0 : ((bt a0 x4_1) == 58) = true := beq_iff_eq.mpr c7
              have c7b1 : ((bt a0 x4_1) != 58) = false := bne_eq_false_iff_eq.mpr c7
              clear c7
              by_cases c8 : x3_1.length < 8796093022208
              · rw [if_pos c8] at H
                have LMc8 := Aside0.mk c8
                clear c8
                obtain ⟨y107, hy107⟩ : ∃ y_ : List ByteArray, y_ = (x3_1 ++ [(⟨#[58]⟩ : ByteArray)]) := ⟨_, rfl⟩
                replace H : (bellowsref09_Words.l0 k1 a0 y107 (wrap64 (x4_1 + 1))) = some r := by first | (rw [hy107]; with_reducible exact H) | (have H2_ := (Option.bind_some _ _).symm.trans H; rw [hy107]; with_reducible exact H2_) | (have H2_ := (Option.bind_some _ _).symm.trans H; with_reducible exact H2_) | with_reducible exact H | (rw [hy107]; exact H) | exact H
                have Ny107 := Aside0.mk hy107
                clear hy107
                have H' := Aside0.mk H
                clear H
                have p4 : 0 ≤ (x4_1 : Int) := of_decide_eq_true (by first | (with_reducible assumption) | assumption)
                have q4 : x4_1 < (a0.size : Int) := of_decide_eq_true (by first | (with_reducible assumption) | assumption)
                have hx4 := bt_at a0 x4_1
                replace p4 := eq_true p4
                replace q4 := eq_true q4
                have p6 : 0 ≤ (x4_1 : Int) := of_decide_eq_true (by first | (with_reducible assumption) | assumption)
                have q6 : x4_1 < (a0.size : Int) := of_decide_eq_true (by first | (with_reducible assumption) | assumption)
                have hx6 := bt_at a0 x4_1
                replace p6 := eq_true p6
                replace q6 := eq_true q6
                go_wp2_with (first | ((with_reducible refine gate_builtin (b := .append) (xs := #[.tmp 68, .tmp 69]) rfl ?_); (try (refine gate_guard (by rfl) ?_; dsimp only)); at_builtin; refine Kd.R_append Kd.string (w0 := w) w.heap.size rfl (.tmp 68) (.tmp 69) 22 9 (.string ⟨#[]⟩) 16 rfl Try.underlying22 info9 rfl (by decide) (by omega) u3 x3_1 (⟨#[58]⟩ : ByteArray) [.string (⟨#[58]⟩ : ByteArray)] (fun _ => True) (fun _ => False) rfl rfl ?aP (fun _ hk => hk.elim) ?aF ?aO ?aB ?aS ?aL ?_; (case aP => exact rfl); (case aB => exact (by repeat (first | (with_reducible first | exact HB.out | apply below_alloc | apply pw_below_drewN | apply below_drew1) | exact HB.out))); (case aF => exact (fun _ _ => trivial)); (case aO => exact (by (with_reducible repeat (first | apply Kd.R_alloc | apply Kd.R_drewN | apply Kd.R_drew)); exact HO_3.out)); (case aS => exact (below_size (by repeat (first | (with_reducible first | exact HB.out | apply below_alloc | apply pw_below_drewN | apply below_drew1) | exact HB.out)))); (case aL => have := LMc8.out; omega); intro v108 w9 ho hb hg hat; rw [← Ny107.out] at ho; have n0_ := Aside0.mk (hb); have n1_ := Aside0.mk (ho); clear HB; clear HO_3; have HB := n0_; have HO109 := n1_; clear n0_ n1_; clear ho hb hg hat))
                go_roundg k1
                case measure => have := HK1.out; omega
                case rel => exact ⟨(y107), (wrap64 (x4_1 + 1)), (by first | rfl | (simp; done) | (simp [*]; done)), H', ⟨by have := HK1.out; omega⟩, ⟨by (with_reducible repeat (first | apply Kd.R_alloc | apply Kd.R_drewN | apply Kd.R_drew)); exact HO109.out⟩, ⟨by repeat (first | (with_reducible first | exact HB.out | apply below_alloc | apply pw_below_drewN | apply below_drew1) | exact HB.out)⟩⟩
              · rw [if_neg c8] at H
                exact absurd H (by simp)
            · rw [if_neg c7] at H
              have c7b0 : ((bt a0 x4_1) == 58) = false := beq_eq_false_iff_ne.mpr c7
              have c7b1 : ((bt a0 x4_1) != 58) = true := bne_iff_ne.mpr c7
              have HC10 := Aside0.mk H
              clear H
              have p4 : 0 ≤ (x4_1 : Int) := of_decide_eq_true (by first | (with_reducible assumption) | assumption)
              have q4 : x4_1 < (a0.size : Int) := of_decide_eq_true (by first | (with_reducible assumption) | assumption)
              have hx4 := bt_at a0 x4_1
              replace p4 := eq_true p4
              replace q4 := eq_true q4
              have p6 : 0 ≤ (x4_1 : Int) := of_decide_eq_true (by first | (with_reducible assumption) | assumption)
              have q6 : x4_1 < (a0.size : Int) := of_decide_eq_true (by first | (with_reducible assumption) | assumption)
              have hx6 := bt_at a0 x4_1
              replace p6 := eq_true p6
              replace q6 := eq_true q6
              go_upto_region 16 with (fail)
              go_cut [73] (fun v73 wc => ∃ (kq : Nat) (x73_9 : Bool), v73 = .bool x73_9 ∧ Aside0 (bellowsref09_Words.j1 kq a0 x3_1 x4_1 x73_9 = some r) ∧ Aside0 (kq ≤ k1) ∧ Aside0 (Kd.R Kd.string 9 wc w.heap.size (fun _ => True) u3 x3_1) ∧ Aside0 (Below w.heap.size w wc))
              case first =>
                have H := HC10.out
                clear HC10
                by_cases c12 : (bt a0 x4_1) = 124
                · rw [if_pos c12] at H
                  have c12b0 : ((bt a0 x4_1) == 124) = true := beq_iff_eq.mpr c12
                  have c12b1 : ((bt a0 x4_1) != 124) = false := bne_eq_false_iff_eq.mpr c12
                  clear c12
                  (first | rw [c12b0] | (simp only [i64_w, i32_w]; rw [c12b0]) | skip)
                  by_cases c13 : (wrap64 (x4_1 + 1)) < (a0.size : Int)
                  · rw [if_pos c13] at H
                    have c13b0 : decide ((wrap64 (x4_1 + 1)) < (a0.size : Int)) = true := decide_eq_true c13
                    clear c13
                    obtain ⟨ji14, hji14⟩ : ∃ j_ : Int, (wrap64 (x4_1 + 1)) = j_ := ⟨_, rfl⟩
                    replace H : (if 0 ≤ (ji14) then (bellowsref09_Words.j1 k1 a0 x3_1 x4_1 ((bt a0 (ji14)) == 124)) else (none)) = some r := by first | (rw [hji14] at H; exact H) | (simp only [hji14] at H ⊢; exact H)
                    (try rw [hji14] at c13b0)
                    have hji14w : (IntKind.i64.wrap (x4_1 + 1)) = ji14 := (i64_w _).trans hji14
                    by_cases c15 : 0 ≤ (ji14)
                    · rw [if_pos c15] at H
                      have c15b0 : decide (0 ≤ (ji14)) = true := decide_eq_true c15
                      clear c15
                      have H' := Aside0.mk H
                      clear H
                      have p11 : 0 ≤ (x4_1 : Int) := of_decide_eq_true (by first | (with_reducible assumption) | assumption)
                      have q11 : x4_1 < (a0.size : Int) := of_decide_eq_true (by first | (with_reducible assumption) | assumption)
                      have hx11 := bt_at a0 x4_1
                      replace p11 := eq_true p11
                      replace q11 := eq_true q11
                      have p16 : 0 ≤ ((ji14) : Int) := of_decide_eq_true (by first | (with_reducible assumption) | assumption)
                      have q16 : (ji14) < (a0.size : Int) := of_decide_eq_true (by first | (with_reducible assumption) | assumption)
                      have hx16 := bt_at a0 (ji14)
                      replace p16 := eq_true p16
                      replace q16 := eq_true q16
                      go_wp2
                      go_meet
                      case rel => exact ⟨_, (((bt a0 (ji14)) == 124)), (by first | rfl | (simp; done) | (simp only [← hji14] <;> (first | rfl | simp)) | (simp [*]; done)), H', ⟨by have := HK1.out; first | omega | exact Nat.le_refl _⟩, ⟨by (with_reducible repeat (first | apply Kd.R_alloc | apply Kd.R_drewN | apply Kd.R_drew)); exact HO_3.out⟩, ⟨by repeat (first | (with_reducible first | exact HB.out | apply below_alloc | apply pw_below_drewN | apply below_drew1) | exact HB.out)⟩⟩
                    · rw [if_neg c15] at H
                      exact absurd H (by simp)
                  · rw [if_neg c13] at H
                    have c13b0 : decide ((wrap64 (x4_1 + 1)) < (a0.size : Int)) = false := decide_eq_false c13
                    clear c13
                    have H' := Aside0.mk H
                    clear H
                    have p11 : 0 ≤ (x4_1 : Int) := of_decide_eq_true (by first | (with_reducible assumption) | assumption)
                    have q11 : x4_1 < (a0.size : Int) := of_decide_eq_true (by first | (with_reducible assumption) | assumption)
                    have hx11 := bt_at a0 x4_1
                    replace p11 := eq_true p11
                    replace q11 := eq_true q11
                    go_wp2
                    go_meet
                    case rel => exact ⟨_, (false), (by first | rfl | (simp; done) | (simp [*]; done)), H', ⟨by have := HK1.out; first | omega | exact Nat.le_refl _⟩, ⟨by (with_reducible repeat (first | apply Kd.R_alloc | apply Kd.R_drewN | apply Kd.R_drew)); exact HO_3.out⟩, ⟨by repeat (first | (with_reducible first | exact HB.out | apply below_alloc | apply pw_below_drewN | apply below_drew1) | exact HB.out)⟩⟩
                · rw [if_neg c12] at H
                  have c12b0 : ((bt a0 x4_1) == 124) = false := beq_eq_false_iff_ne.mpr c12
                  have c12b1 : ((bt a0 x4_1) != 124) = true := bne_iff_ne.mpr c12
                  (first | rw [c12b0] | (simp only [i64_w, i32_w]; rw [c12b0]) | skip)
                  have H' := Aside0.mk H
                  clear H
                  have p11 : 0 ≤ (x4_1 : Int) := of_decide_eq_true (by first | (with_reducible assumption) | assumption)
                  have q11 : x4_1 < (a0.size : Int) := of_decide_eq_true (by first | (with_reducible assumption) | assumption)
                  have hx11 := bt_at a0 x4_1
                  replace p11 := eq_true p11
                  replace q11 := eq_true q11
                  go_wp2
                  go_meet
                  case rel => exact ⟨_, (false), (by first | rfl | (simp; done) | (simp [*]; done)), H', ⟨by have := HK1.out; first | omega | exact Nat.le_refl _⟩, ⟨by (with_reducible repeat (first | apply Kd.R_alloc | apply Kd.R_drewN | apply Kd.R_drew)); exact HO_3.out⟩, ⟨by repeat (first | (with_reducible first | exact HB.out | apply below_alloc | apply pw_below_drewN | apply below_drew1) | exact HB.out)⟩⟩
              case rest =>
                clear HC10
                try clear c1
                try clear p1
                try clear q1
                try clear hx1
                try clear c2
                try clear c2b0
                try clear p2
                try clear c3
                try clear c3b0
                try clear p4
                try clear q4
                try clear hx4
                try clear c5
                try clear c5b0
                try clear c5b1
                try clear c6
                try clear p6
                try clear q6
                try clear hx6
                try clear c7
                try clear c7b0
                try clear c7b1
                try clear c8
                try clear p11
                try clear q11
                try clear hx11
                try clear c12
                try clear c12b0
                try clear c12b1
                try clear c13
                try clear c13b0
                try clear c15
                try clear c15b0
                try clear p16
                try clear q16
                try clear hx16
                try clear p11
                try clear p16
                try clear p4
                try clear p6
                try clear q11
                try clear q16
                try clear q4
                try clear q6
                obtain ⟨kq, x73_9, rfl, HA, HJ9, HO_3, HB⟩ := hcut
                cases kq with
                | zero => exact absurd HA.out (by simp [bellowsref09_Words.j1])
                | succ kj9 =>
                  have H := HA.out
                  clear HA
                  simp only [bellowsref09_Words.j1] at H
                  by_cases c17 : x73_9 = true
                  · subst c17
                    have H1 : (if x3_1.length < 8796093022208 then (bellowsref09_Words.l0 kj9 a0 (x3_1 ++ [(⟨#[124, 124]⟩ : ByteArray)]) (wrap64 (x4_1 + 2))) else (none)) = some r := by rw [if_pos rfl] at H; exact H
                    clear H
                    have H := H1
                    clear H1
                    by_cases c18 : x3_1.length < 8796093022208
                    · rw [if_pos c18] at H
                      have LMc18 := Aside0.mk c18
                      clear c18
                      obtain ⟨y110, hy110⟩ : ∃ y_ : List ByteArray, y_ = (x3_1 ++ [(⟨#[124, 124]⟩ : ByteArray)]) := ⟨_, rfl⟩
                      replace H : (bellowsref09_Words.l0 kj9 a0 y110 (wrap64 (x4_1 + 2))) = some r := by first | (rw [hy110]; with_reducible exact H) | (have H2_ := (Option.bind_some _ _).symm.trans H; rw [hy110]; with_reducible exact H2_) | (have H2_ := (Option.bind_some _ _).symm.trans H; with_reducible exact H2_) | with_reducible exact H | (rw [hy110]; exact H) | exact H
                      have Ny110 := Aside0.mk hy110
                      clear hy110
                      have H' := Aside0.mk H
                      clear H
                      go_wp2_with (first | ((with_reducible refine gate_builtin (b := .append) (xs := #[.tmp 92, .tmp 93]) rfl ?_); (try (refine gate_guard (by rfl) ?_; dsimp only)); at_builtin; refine Kd.R_append Kd.string (w0 := w) w.heap.size rfl (.tmp 92) (.tmp 93) 22 9 (.string ⟨#[]⟩) 16 rfl Try.underlying22 info9 rfl (by decide) (by omega) u3 x3_1 (⟨#[124, 124]⟩ : ByteArray) [.string (⟨#[124, 124]⟩ : ByteArray)] (fun _ => True) (fun _ => False) rfl rfl ?aP (fun _ hk => hk.elim) ?aF ?aO ?aB ?aS ?aL ?_; (case aP => exact rfl); (case aB => exact (by repeat (first | (with_reducible first | exact HB.out | apply below_alloc | apply pw_below_drewN | apply below_drew1) | exact HB.out))); (case aF => exact (fun _ _ => trivial)); (case aO => exact (by (with_reducible repeat (first | apply Kd.R_alloc | apply Kd.R_drewN | apply Kd.R_drew)); exact HO_3.out)); (case aS => exact (below_size (by repeat (first | (with_reducible first | exact HB.out | apply below_alloc | apply pw_below_drewN | apply below_drew1) | exact HB.out)))); (case aL => have := LMc18.out; omega); intro v111 w19 ho hb hg hat; rw [← Ny110.out] at ho; have n0_ := Aside0.mk (hb); have n1_ := Aside0.mk (ho); clear HB; clear HO_3; have HB := n0_; have HO112 := n1_; clear n0_ n1_; clear ho hb hg hat))
                      go_roundg kj9
                      case measure => have := HK1.out; have := HJ9.out; omega
                      case rel => exact ⟨(y110), (wrap64 (x4_1 + 2)), (by first | rfl | (simp; done) | (simp [*]; done)), H', ⟨by have := HK1.out; have := HJ9.out; omega⟩, ⟨by (with_reducible repeat (first | apply Kd.R_alloc | apply Kd.R_drewN | apply Kd.R_drew)); exact HO112.out⟩, ⟨by repeat (first | (with_reducible first | exact HB.out | apply below_alloc | apply pw_below_drewN | apply below_drew1) | exact HB.out)⟩⟩
                    · rw [if_neg c18] at H
                      exact absurd H (by simp)
                  · replace c17 := Bool.eq_false_iff.mpr c17
                    subst c17
                    have H1 : (if 0 ≤ x4_1 then (if x4_1 < (a0.size : Int) then (if (bt a0 x4_1) = 124 then (if x3_1.length < 8796093022208 then (bellowsref09_Words.l0 kj9 a0 (x3_1 ++ [(⟨#[124]⟩ : ByteArray)]) (wrap64 (x4_1 + 1))) else (none)) else (bellowsref09_Words.l1 kj9 a0 x3_1 x4_1 x4_1)) else (none)) else (none)) = some r := by rw [if_neg (show ¬ (false = true) by decide)] at H; exact H
                    clear H
                    have H := H1
                    clear H1
                    by_cases c20 : 0 ≤ x4_1
                    · rw [if_pos c20] at H
                      have c20b0 : decide (0 ≤ x4_1) = true := decide_eq_true c20
                      clear c20
                      by_cases c21 : x4_1 < (a0.size : Int)
                      · rw [if_pos c21] at H
                        have c21b0 : decide (x4_1 < (a0.size : Int)) = true := decide_eq_true c21
                        clear c21
                        by_cases c23 : (bt a0 x4_1) = 124
                        · rw [if_pos c23] at H
                          have c23b0 : ((bt a0 x4_1) == 124) = true := beq_iff_eq.mpr c23
                          have c23b1 : ((bt a0 x4_1) != 124) = false := bne_eq_false_iff_eq.mpr c23
                          clear c23
                          by_cases c24 : x3_1.length < 8796093022208
                          · rw [if_pos c24] at H
                            have LMc24 := Aside0.mk c24
                            clear c24
                            obtain ⟨y113, hy113⟩ : ∃ y_ : List ByteArray, y_ = (x3_1 ++ [(⟨#[124]⟩ : ByteArray)]) := ⟨_, rfl⟩
                            replace H : (bellowsref09_Words.l0 kj9 a0 y113 (wrap64 (x4_1 + 1))) = some r := by first | (rw [hy113]; with_reducible exact H) | (have H2_ := (Option.bind_some _ _).symm.trans H; rw [hy113]; with_reducible exact H2_) | (have H2_ := (Option.bind_some _ _).symm.trans H; with_reducible exact H2_) | with_reducible exact H | (rw [hy113]; exact H) | exact H
                            have Ny113 := Aside0.mk hy113
                            clear hy113
                            have H' := Aside0.mk H
                            clear H
                            have p22 : 0 ≤ (x4_1 : Int) := of_decide_eq_true (by first | (with_reducible assumption) | assumption)
                            have q22 : x4_1 < (a0.size : Int) := of_decide_eq_true (by first | (with_reducible assumption) | assumption)
                            have hx22 := bt_at a0 x4_1
                            replace p22 := eq_true p22
                            replace q22 := eq_true q22
                            go_wp2_with (first | ((with_reducible refine gate_builtin (b := .append) (xs := #[.tmp 102, .tmp 103]) rfl ?_); (try (refine gate_guard (by rfl) ?_; dsimp only)); at_builtin; refine Kd.R_append Kd.string (w0 := w) w.heap.size rfl (.tmp 102) (.tmp 103) 22 9 (.string ⟨#[]⟩) 16 rfl Try.underlying22 info9 rfl (by decide) (by omega) u3 x3_1 (⟨#[124]⟩ : ByteArray) [.string (⟨#[124]⟩ : ByteArray)] (fun _ => True) (fun _ => False) rfl rfl ?aP (fun _ hk => hk.elim) ?aF ?aO ?aB ?aS ?aL ?_; (case aP => exact rfl); (case aB => exact (by repeat (first | (with_reducible first | exact HB.out | apply below_alloc | apply pw_below_drewN | apply below_drew1) | exact HB.out))); (case aF => exact (fun _ _ => trivial)); (case aO => exact (by (with_reducible repeat (first | apply Kd.R_alloc | apply Kd.R_drewN | apply Kd.R_drew)); exact HO_3.out)); (case aS => exact (below_size (by repeat (first | (with_reducible first | exact HB.out | apply below_alloc | apply pw_below_drewN | apply below_drew1) | exact HB.out)))); (case aL => have := LMc24.out; omega); intro v114 w25 ho hb hg hat; rw [← Ny113.out] at ho; have n0_ := Aside0.mk (hb); have n1_ := Aside0.mk (ho); clear HB; clear HO_3; have HB := n0_; have HO115 := n1_; clear n0_ n1_; clear ho hb hg hat))
                            go_roundg kj9
                            case measure => have := HK1.out; have := HJ9.out; omega
                            case rel => exact ⟨(y113), (wrap64 (x4_1 + 1)), (by first | rfl | (simp; done) | (simp [*]; done)), H', ⟨by have := HK1.out; have := HJ9.out; omega⟩, ⟨by (with_reducible repeat (first | apply Kd.R_alloc | apply Kd.R_drewN | apply Kd.R_drew)); exact HO115.out⟩, ⟨by repeat (first | (with_reducible first | exact HB.out | apply below_alloc | apply pw_below_drewN | apply below_drew1) | exact HB.out)⟩⟩
                          · rw [if_neg c24] at H
                            exact absurd H (by simp)
                        · rw [if_neg c23] at H
                          have c23b0 : ((bt a0 x4_1) == 124) = false := beq_eq_false_iff_ne.mpr c23
                          have c23b1 : ((bt a0 x4_1) != 124) = true := bne_iff_ne.mpr c23
                          have H' := Aside0.mk H
                          clear H
                          have p22 : 0 ≤ (x4_1 : Int) := of_decide_eq_true (by first | (with_reducible assumption) | assumption)
                          have q22 : x4_1 < (a0.size : Int) := of_decide_eq_true (by first | (with_reducible assumption) | assumption)
                          have hx22 := bt_at a0 x4_1
                          replace p22 := eq_true p22
                          replace q22 := eq_true q22
                          go_wp2
                          go_loopg [5] kj9 (fun kq v5 w' => ∃ (x5_3 : Int), v5 = .int .i64 x5_3 ∧ Aside0 (bellowsref09_Words.l1 kq a0 x3_1 x4_1 x5_3 = some r) ∧ Aside0 (kq ≤ kj9) ∧ Aside0 (Kd.R Kd.string 9 w' w.heap.size (fun _ => True) u3 x3_1) ∧ Aside0 (Below w.heap.size w w'))
                          case atStart => exact ⟨(x4_1), (by first | rfl | (simp; done) | (simp [*]; done)), H', ⟨Nat.le_refl _⟩, ⟨by (with_reducible repeat (first | apply Kd.R_alloc | apply Kd.R_drewN | apply Kd.R_drew)); exact HO_3.out⟩, ⟨by repeat (first | (with_reducible first | exact HB.out | apply below_alloc | apply pw_below_drewN | apply below_drew1) | exact HB.out)⟩⟩
                          case round =>
                            clear H'
                            try clear c1
                            try clear p1
                            try clear q1
                            try clear hx1
                            try clear c2
                            try clear c2b0
                            try clear p2
                            try clear q2
                            try clear hx2
                            try clear c3
                            try clear c3b0
                            try clear p4
                            try clear q4
                            try clear hx4
                            try clear c5
                            try clear c5b0
                            try clear c5b1
                            try clear c6
                            try clear p6
                            try clear q6
                            try clear hx6
                            try clear c7
                            try clear c7b0
                            try clear c7b1
                            try clear c8
                            try clear p11
                            try clear q11
                            try clear hx11
                            try clear c12
                            try clear c12b0
                            try clear c12b1
                            try clear c13
                            try clear c13b0
                            try clear c15
                            try clear c15b0
                            try clear p16
                            try clear q16
                            try clear hx16
                            try clear c17
                            try clear c18
                            try clear c20
                            try clear c20b0
                            try clear c21
                            try clear c21b0
                            try clear p22
                            try clear q22
                            try clear hx22
                            try clear c23
                            try clear c23b0
                            try clear c23b1
                            try clear c24
                            try clear p1
                            try clear p11
                            try clear p16
                            try clear p2
                            try clear p22
                            try clear p4
                            try clear p6
                            try clear q1
                            try clear q11
                            try clear q16
                            try clear q22
                            try clear q4
                            try clear q6
                            obtain ⟨x5_3, rfl, HA, HK3, HO_3, HB⟩ := hrel
                            cases gk with
                            | zero => exact absurd HA.out (by simp [bellowsref09_Words.l1])
                            | succ k3 =>
                              have H := HA.out
                              clear HA
                              simp only [bellowsref09_Words.l1] at H
                              have HC26 := Aside0.mk H
                              clear H
                              go_upto_region 5 with (fail)
                              go_cut [32] (fun v32 wc => ∃ (kq : Nat) (x32_25 : Bool), v32 = .bool x32_25 ∧ Aside0 (bellowsref09_Words.j3 kq a0 x3_1 x4_1 x5_3 x32_25 = some r) ∧ Aside0 (kq ≤ k3) ∧ Aside0 (Kd.R Kd.string 9 wc w.heap.size (fun _ => True) u3 x3_1) ∧ Aside0 (Below w.heap.size w wc))
                              case first =>
                                have H := HC26.out
                                clear HC26
                                by_cases c27 : x5_3 < (a0.size : Int)
                                · rw [if_pos c27] at H
                                  have c27b0 : decide (x5_3 < (a0.size : Int)) = true := decide_eq_true c27
                                  clear c27
                                  (first | rw [c27b0] | (simp only [i64_w, i32_w]; rw [c27b0]) | skip)
                                  by_cases c28 : 0 ≤ x5_3
                                  · rw [if_pos c28] at H
                                    have c28b0 : decide (0 ≤ x5_3) = true := decide_eq_true c28
                                    clear c28
                                    by_cases c30 : (bt a0 x5_3) = 32
                                    · rw [if_pos c30] at H
                                      have c30b0 : ((bt a0 x5_3) == 32) = true := beq_iff_eq.mpr c30
                                      have c30b1 : ((bt a0 x5_3) != 32) = false := bne_eq_false_iff_eq.mpr c30
                                      clear c30
                                      have H' := Aside0.mk H
                                      clear H
                                      have p29 : 0 ≤ (x5_3 : Int) := of_decide_eq_true (by first | (with_reducible assumption) | assumption)
                                      have q29 : x5_3 < (a0.size : Int) := of_decide_eq_true (by first | (with_reducible assumption) | assumption)
                                      have hx29 := bt_at a0 x5_3
                                      replace p29 := eq_true p29
                                      replace q29 := eq_true q29
                                      go_wp2
                                      go_meet
                                      case rel => exact ⟨_, (false), (by first | rfl | (simp; done) | (simp [*]; done)), H', ⟨by have := HK1.out; have := HJ9.out; have := HK3.out; first | omega | exact Nat.le_refl _⟩, ⟨by (with_reducible repeat (first | apply Kd.R_alloc | apply Kd.R_drewN | apply Kd.R_drew)); exact HO_3.out⟩, ⟨by repeat (first | (with_reducible first | exact HB.out | apply below_alloc | apply pw_below_drewN | apply below_drew1) | exact HB.out)⟩⟩
                                    · rw [if_neg c30] at H
                                      have c30b0 : ((bt a0 x5_3) == 32) = false := beq_eq_false_iff_ne.mpr c30
                                      have c30b1 : ((bt a0 x5_3) != 32) = true := bne_iff_ne.mpr c30
                                      by_cases c32 : (bt a0 x5_3) = 58
                                      · rw [if_pos c32] at H
                                        have c32b0 : ((bt a0 x5_3) == 58) = true := beq_iff_eq.mpr c32
                                        have c32b1 : ((bt a0 x5_3) != 58) = false := bne_eq_false_iff_eq.mpr c32
                                        clear c32
                                        have H' := Aside0.mk H
                                        clear H
                                        have p29 : 0 ≤ (x5_3 : Int) := of_decide_eq_true (by first | (with_reducible assumption) | assumption)
                                        have q29 : x5_3 < (a0.size : Int) := of_decide_eq_true (by first | (with_reducible assumption) | assumption)
                                        have hx29 := bt_at a0 x5_3
                                        replace p29 := eq_true p29
                                        replace q29 := eq_true q29
                                        have p31 : 0 ≤ (x5_3 : Int) := of_decide_eq_true (by first | (with_reducible assumption) | assumption)
                                        have q31 : x5_3 < (a0.size : Int) := of_decide_eq_true (by first | (with_reducible assumption) | assumption)
                                        have hx31 := bt_at a0 x5_3
                                        replace p31 := eq_true p31
                                        replace q31 := eq_true q31
                                        go_wp2
                                        go_meet
                                        case rel => exact ⟨_, (false), (by first | rfl | (simp; done) | (simp [*]; done)), H', ⟨by have := HK1.out; have := HJ9.out; have := HK3.out; first | omega | exact Nat.le_refl _⟩, ⟨by (with_reducible repeat (first | apply Kd.R_alloc | apply Kd.R_drewN | apply Kd.R_drew)); exact HO_3.out⟩, ⟨by repeat (first | (with_reducible first | exact HB.out | apply below_alloc | apply pw_below_drewN | apply below_drew1) | exact HB.out)⟩⟩
                                      · rw [if_neg c32] at H
                                        have c32b0 : ((bt a0 x5_3) == 58) = false := beq_eq_false_iff_ne.mpr c32
                                        have c32b1 : ((bt a0 x5_3) != 58) = true := bne_iff_ne.mpr c32
                                        have H' := Aside0.mk H
                                        clear H
                                        have p29 : 0 ≤ (x5_3 : Int) := of_decide_eq_true (by first | (with_reducible assumption) | assumption)
                                        have q29 : x5_3 < (a0.size : Int) := of_decide_eq_true (by first | (with_reducible assumption) | assumption)
                                        have hx29 := bt_at a0 x5_3
                                        replace p29 := eq_true p29
                                        replace q29 := eq_true q29
                                        have p31 : 0 ≤ (x5_3 : Int) := of_decide_eq_true (by first | (with_reducible assumption) | assumption)
                                        have q31 : x5_3 < (a0.size : Int) := of_decide_eq_true (by first | (with_reducible assumption) | assumption)
                                        have hx31 := bt_at a0 x5_3
                                        replace p31 := eq_true p31
                                        replace q31 := eq_true q31
                                        have p33 : 0 ≤ (x5_3 : Int) := of_decide_eq_true (by first | (with_reducible assumption) | assumption)
                                        have q33 : x5_3 < (a0.size : Int) := of_decide_eq_true (by first | (with_reducible assumption) | assumption)
                                        have hx33 := bt_at a0 x5_3
                                        replace p33 := eq_true p33
                                        replace q33 := eq_true q33
                                        go_wp2
                                        go_meet
                                        case rel => exact ⟨_, (((bt a0 x5_3) != 124)), (by first | rfl | (simp; done) | (simp [*]; done)), H', ⟨by have := HK1.out; have := HJ9.out; have := HK3.out; first | omega | exact Nat.le_refl _⟩, ⟨by (with_reducible repeat (first | apply Kd.R_alloc | apply Kd.R_drewN | apply Kd.R_drew)); exact HO_3.out⟩, ⟨by repeat (first | (with_reducible first | exact HB.out | apply below_alloc | apply pw_below_drewN | apply below_drew1) | exact HB.out)⟩⟩
                                  · rw [if_neg c28] at H
                                    exact absurd H (by simp)
                                · rw [if_neg c27] at H
                                  have c27b0 : decide (x5_3 < (a0.size : Int)) = false := decide_eq_false c27
                                  clear c27
                                  (first | rw [c27b0] | (simp only [i64_w, i32_w]; rw [c27b0]) | skip)
                                  have H' := Aside0.mk H
                                  clear H
                                  go_wp2
                                  go_meet
                                  case rel => exact ⟨_, (false), (by first | rfl | (simp; done) | (simp [*]; done)), H', ⟨by have := HK1.out; have := HJ9.out; have := HK3.out; first | omega | exact Nat.le_refl _⟩, ⟨by (with_reducible repeat (first | apply Kd.R_alloc | apply Kd.R_drewN | apply Kd.R_drew)); exact HO_3.out⟩, ⟨by repeat (first | (with_reducible first | exact HB.out | apply below_alloc | apply pw_below_drewN | apply below_drew1) | exact HB.out)⟩⟩
                              case rest =>
                                clear HC26
                                try clear c1
                                try clear p1
                                try clear q1
                                try clear hx1
                                try clear c2
                                try clear c2b0
                                try clear p2
                                try clear q2
                                try clear hx2
                                try clear c3
                                try clear c3b0
                                try clear p3
                                try clear q3
                                try clear hx3
                                try clear p4
                                try clear q4
                                try clear hx4
                                try clear c5
                                try clear c5b0
                                try clear c5b1
                                try clear c6
                                try clear p6
                                try clear q6
                                try clear hx6
                                try clear c7
                                try clear c7b0
                                try clear c7b1
                                try clear c8
                                try clear p11
                                try clear q11
                                try clear hx11
                                try clear c12
                                try clear c12b0
                                try clear c12b1
                                try clear c13
                                try clear c13b0
                                try clear c15
                                try clear c15b0
                                try clear p16
                                try clear q16
                                try clear hx16
                                try clear c17
                                try clear c18
                                try clear c20
                                try clear c20b0
                                try clear c21
                                try clear c21b0
                                try clear p22
                                try clear q22
                                try clear hx22
                                try clear c23
                                try clear c23b0
                                try clear c23b1
                                try clear c24
                                try clear c27
                                try clear c27b0
                                try clear c28
                                try clear c28b0
                                try clear p29
                                try clear q29
                                try clear hx29
                                try clear c30
                                try clear c30b0
                                try clear c30b1
                                try clear p31
                                try clear q31
                                try clear hx31
                                try clear c32
                                try clear c32b0
                                try clear c32b1
                                try clear p33
                                try clear q33
                                try clear hx33
                                try clear p1
                                try clear p11
                                try clear p16
                                try clear p2
                                try clear p22
                                try clear p29
                                try clear p31
                                try clear p33
                                try clear p4
                                try clear p6
                                try clear q1
                                try clear q11
                                try clear q16
                                try clear q2
                                try clear q22
                                try clear q29
                                try clear q31
                                try clear q33
                                try clear q4
                                try clear q6
                                obtain ⟨kq, x32_25, rfl, HA, HJ25, HO_3, HB⟩ := hcut
                                cases kq with
                                | zero => exact absurd HA.out (by simp [bellowsref09_Words.j3])
                                | succ kj25 =>
                                  have H := HA.out
                                  clear HA
                                  simp only [bellowsref09_Words.j3] at H
                                  by_cases c34 : x32_25 = true
                                  · subst c34
                                    have H1 : (if 0 ≤ x5_3 then (if x5_3 < (a0.size : Int) then (if (bt a0 x5_3) = 36 then (if (wrap64 (x5_3 + 1)) < (a0.size : Int) then (bellowsref09_Words.l1 kj25 a0 x3_1 x4_1 (wrap64 ((wrap64 (x5_3 + 1)) + 1))) else (bellowsref09_Words.l1 kj25 a0 x3_1 x4_1 (wrap64 (x5_3 + 1)))) else (bellowsref09_Words.l1 kj25 a0 x3_1 x4_1 (wrap64 (x5_3 + 1)))) else (none)) else (none)) = some r := by rw [if_pos rfl] at H; exact H
                                    clear H
                                    have H := H1
                                    clear H1
                                    by_cases c35 : 0 ≤ x5_3
                                    · rw [if_pos c35] at H
                                      have c35b0 : decide (0 ≤ x5_3) = true := decide_eq_true c35
                                      clear c35
                                      by_cases c36 : x5_3 < (a0.size : Int)
                                      · rw [if_pos c36] at H
                                        have c36b0 : decide (x5_3 < (a0.size : Int)) = true := decide_eq_true c36
                                        clear c36
                                        by_cases c38 : (bt a0 x5_3) = 36
                                        · rw [if_pos c38] at H
                                          have c38b0 : ((bt a0 x5_3) == 36) = true := beq_iff_eq.mpr c38
                                          have c38b1 : ((bt a0 x5_3) != 36) = false := bne_eq_false_iff_eq.mpr c38
                                          clear c38
                                          by_cases c39 : (wrap64 (x5_3 + 1)) < (a0.size : Int)
                                          · rw [if_pos c39] at H
                                            have c39b0 : decide ((wrap64 (x5_3 + 1)) < (a0.size : Int)) = true := decide_eq_true c39
                                            clear c39
                                            have H' := Aside0.mk H
                                            clear H
                                            have p37 : 0 ≤ (x5_3 : Int) := of_decide_eq_true (by first | (with_reducible assumption) | assumption)
                                            have q37 : x5_3 < (a0.size : Int) := of_decide_eq_true (by first | (with_reducible assumption) | assumption)
                                            have hx37 := bt_at a0 x5_3
                                            replace p37 := eq_true p37
                                            replace q37 := eq_true q37
                                            go_wp2
                                            go_roundg kj25
                                            case measure => have := HK1.out; have := HJ9.out; have := HK3.out; have := HJ25.out; omega
                                            case rel => exact ⟨(wrap64 ((wrap64 (x5_3 + 1)) + 1)), (by first | rfl | (simp; done) | (simp [*]; done)), H', ⟨by have := HK1.out; have := HJ9.out; have := HK3.out; have := HJ25.out; omega⟩, ⟨by (with_reducible repeat (first | apply Kd.R_alloc | apply Kd.R_drewN | apply Kd.R_drew)); exact HO_3.out⟩, ⟨by repeat (first | (with_reducible first | exact HB.out | apply below_alloc | apply pw_below_drewN | apply below_drew1) | exact HB.out)⟩⟩
                                          · rw [if_neg c39] at H
                                            have c39b0 : decide ((wrap64 (x5_3 + 1)) < (a0.size : Int)) = false := decide_eq_false c39
                                            clear c39
                                            have H' := Aside0.mk H
                                            clear H
                                            have p37 : 0 ≤ (x5_3 : Int) := of_decide_eq_true (by first | (with_reducible assumption) | assumption)
                                            have q37 : x5_3 < (a0.size : Int) := of_decide_eq_true (by first | (with_reducible assumption) | assumption)
                                            have hx37 := bt_at a0 x5_3
                                            replace p37 := eq_true p37
                                            replace q37 := eq_true q37
                                            go_wp2
                                            go_roundg kj25
                                            case measure => have := HK1.out; have := HJ9.out; have := HK3.out; have := HJ25.out; omega
                                            case rel => exact ⟨(wrap64 (x5_3 + 1)), (by first | rfl | (simp; done) | (simp [*]; done)), H', ⟨by have := HK1.out; have := HJ9.out; have := HK3.out; have := HJ25.out; omega⟩, ⟨by (with_reducible repeat (first | apply Kd.R_alloc | apply Kd.R_drewN | apply Kd.R_drew)); exact HO_3.out⟩, ⟨by repeat (first | (with_reducible first | exact HB.out | apply below_alloc | apply pw_below_drewN | apply below_drew1) | exact HB.out)⟩⟩
                                        · rw [if_neg c38] at H
                                          have c38b0 : ((bt a0 x5_3) == 36) = false := beq_eq_false_iff_ne.mpr c38
                                          have c38b1 : ((bt a0 x5_3) != 36) = true := bne_iff_ne.mpr c38
                                          have H' := Aside0.mk H
                                          clear H
                                          have p37 : 0 ≤ (x5_3 : Int) := of_decide_eq_true (by first | (with_reducible assumption) | assumption)
                                          have q37 : x5_3 < (a0.size : Int) := of_decide_eq_true (by first | (with_reducible assumption) | assumption)
                                          have hx37 := bt_at a0 x5_3
                                          replace p37 := eq_true p37
                                          replace q37 := eq_true q37
                                          go_wp2
                                          go_roundg kj25
                                          case measure => have := HK1.out; have := HJ9.out; have := HK3.out; have := HJ25.out; omega
                                          case rel => exact ⟨(wrap64 (x5_3 + 1)), (by first | rfl | (simp; done) | (simp [*]; done)), H', ⟨by have := HK1.out; have := HJ9.out; have := HK3.out; have := HJ25.out; omega⟩, ⟨by (with_reducible repeat (first | apply Kd.R_alloc | apply Kd.R_drewN | apply Kd.R_drew)); exact HO_3.out⟩, ⟨by repeat (first | (with_reducible first | exact HB.out | apply below_alloc | apply pw_below_drewN | apply below_drew1) | exact HB.out)⟩⟩
                                      · rw [if_neg c36] at H
                                        exact absurd H (by simp)
                                    · rw [if_neg c35] at H
                                      exact absurd H (by simp)
                                  · replace c34 := Bool.eq_false_iff.mpr c34
                                    subst c34
                                    have H1 : (if 0 ≤ x4_1 then (if x4_1 ≤ x5_3 then (if x5_3 ≤ (a0.size : Int) then (if x3_1.length < 8796093022208 then (bellowsref09_Words.l0 kj25 a0 (x3_1 ++ [a0.extract (x4_1 : Int).toNat (x5_3 : Int).toNat]) x5_3) else (none)) else (none)) else (none)) else (none)) = some r := by rw [if_neg (show ¬ (false = true) by decide)] at H; exact H
                                    clear H
                                    have H := H1
                                    clear H1
                                    by_cases c40 : 0 ≤ x4_1
                                    · rw [if_pos c40] at H
                                      have c40b0 := eq_true c40
                                      have c40b1 : decide (0 ≤ x4_1) = true := decide_eq_true c40
                                      clear c40
                                      by_cases c41 : x4_1 ≤ x5_3
                                      · rw [if_pos c41] at H
                                        have c41b0 := eq_true c41
                                        have c41b1 : decide (x4_1 ≤ x5_3) = true := decide_eq_true c41
                                        clear c41
                                        by_cases c42 : x5_3 ≤ (a0.size : Int)
                                        · rw [if_pos c42] at H
                                          have c42b0 := eq_true c42
                                          have c42b1 : decide (x5_3 ≤ (a0.size : Int)) = true := decide_eq_true c42
                                          clear c42
                                          by_cases c43 : x3_1.length < 8796093022208
                                          · rw [if_pos c43] at H
                                            have LMc43 := Aside0.mk c43
                                            clear c43
                                            obtain ⟨y116, hy116⟩ : ∃ y_ : List ByteArray, y_ = (x3_1 ++ [a0.extract (x4_1 : Int).toNat (x5_3 : Int).toNat]) := ⟨_, rfl⟩
                                            replace H : (bellowsref09_Words.l0 kj25 a0 y116 x5_3) = some r := by first | (rw [hy116]; with_reducible exact H) | (have H2_ := (Option.bind_some _ _).symm.trans H; rw [hy116]; with_reducible exact H2_) | (have H2_ := (Option.bind_some _ _).symm.trans H; with_reducible exact H2_) | with_reducible exact H | (rw [hy116]; exact H) | exact H
                                            have Ny116 := Aside0.mk hy116
                                            clear hy116
                                            have H' := Aside0.mk H
                                            clear H
                                            go_wp2_with (first | ((with_reducible refine gate_builtin (b := .append) (xs := #[.tmp 48, .tmp 53]) rfl ?_); (try (refine gate_guard (by rfl) ?_; dsimp only)); at_builtin; refine Kd.R_append Kd.string (w0 := w) w.heap.size rfl (.tmp 48) (.tmp 53) 22 9 (.string ⟨#[]⟩) 16 rfl Try.underlying22 info9 rfl (by decide) (by omega) u3 x3_1 (a0.extract (x4_1 : Int).toNat (x5_3 : Int).toNat) [.string (a0.extract (x4_1 : Int).toNat (x5_3 : Int).toNat)] (fun _ => True) (fun _ => False) rfl rfl ?aP (fun _ hk => hk.elim) ?aF ?aO ?aB ?aS ?aL ?_; (case aP => exact rfl); (case aB => exact (by repeat (first | (with_reducible first | exact HB.out | apply below_alloc | apply pw_below_drewN | apply below_drew1) | exact HB.out))); (case aF => exact (fun _ _ => trivial)); (case aO => exact (by (with_reducible repeat (first | apply Kd.R_alloc | apply Kd.R_drewN | apply Kd.R_drew)); exact HO_3.out)); (case aS => exact (below_size (by repeat (first | (with_reducible first | exact HB.out | apply below_alloc | apply pw_below_drewN | apply below_drew1) | exact HB.out)))); (case aL => have := LMc43.out; omega); intro v117 w44 ho hb hg hat; rw [← Ny116.out] at ho; have n0_ := Aside0.mk (hb); have n1_ := Aside0.mk (ho); clear HB; clear HO_3; have HB := n0_; have HO118 := n1_; clear n0_ n1_; clear ho hb hg hat))
                                            go_roundg kj25
                                            case measure => have := HK1.out; have := HJ9.out; have := HK3.out; have := HJ25.out; omega
                                            case rel => exact ⟨(y116), (x5_3), (by first | rfl | (simp; done) | (simp [*]; done)), H', ⟨by have := HK1.out; have := HJ9.out; have := HK3.out; have := HJ25.out; omega⟩, ⟨by (with_reducible repeat (first | apply Kd.R_alloc | apply Kd.R_drewN | apply Kd.R_drew)); exact HO118.out⟩, ⟨by repeat (first | (with_reducible first | exact HB.out | apply below_alloc | apply pw_below_drewN | apply below_drew1) | exact HB.out)⟩⟩
                                          · rw [if_neg c43] at H
                                            exact absurd H (by simp)
                                        · rw [if_neg c42] at H
                                          exact absurd H (by simp)
                                      · rw [if_neg c41] at H
                                        exact absurd H (by simp)
                                    · rw [if_neg c40] at H
                                      exact absurd H (by simp)
                      · rw [if_neg c21] at H
                        exact absurd H (by simp)
                    · rw [if_neg c20] at H
                      exact absurd H (by simp)
        · rw [if_neg c3] at H
          exact absurd H (by simp)
      · rw [if_neg c2] at H
        have c2b0 : decide (x4_1 < (a0.size : Int)) = false := decide_eq_false c2
        clear c2
        obtain rfl := Option.some.inj H
        go_wp2
        go_ret
        exact ⟨_, by first | rfl | (simp [errW_none, errW_some] <;> rfl) | (simp [*, errW_none, errW_some] <;> rfl), by (with_reducible repeat (first | apply Kd.R_alloc | apply Kd.R_drewN | apply Kd.R_drew)); exact HO_3.out, by repeat (first | (with_reducible first | exact HB.out | apply below_alloc | apply pw_below_drewN | apply below_drew1) | exact HB.out)⟩

end Go.Proofs.Ytlkoodikflflpaa.P
