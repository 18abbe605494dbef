-- printed by wip/tools/pr.py, a program of this session's, with the kit's print.py
import Derived.Test.YtlpjhpdgjeiioaaP0
namespace Go.Proofs.Ytlpjhpdgjeiioaa.P
open Go.RowKit Go.Proofs.YtlpjhpdgjeiioaaW.PrintWords Go.Proofs.YtlpjhpdgjeiioaaW.PrintLast Go.Proofs.YtlpjhpdgjeiioaaW.PrintMore
attribute [local go_sem] max2_int min2_int max_two min_two max_three min_three max_four min_four
set_option linter.unusedVariables false
set_option linter.unusedSimpArgs false

/-! ### bellowsref10_Get: function 14 -/
mutual
def bellowsref10_Get.l0 : Nat → List (S50) → ByteArray → Int → Option (ByteArray)
  | 0, _, _, _ => none
  | k + 1, x0, x1, x5 => if x5 < (x0.length : Int) then (if 0 ≤ x5 then (bellowsref10_Get.l1 k x0 x1 x5 (wrap64 ((((rd_T50 x0 x5).f0).length : Int) - 1))) else (none)) else (some (⟨#[]⟩ : ByteArray))
def bellowsref10_Get.l1 : Nat → List (S50) → ByteArray → Int → Int → Option (ByteArray)
  | 0, _, _, _, _ => none
  | k + 1, x0, x1, x5, x6 => if x6 ≥ 0 then (if 0 ≤ x5 then (if x5 < (x0.length : Int) then (if 0 ≤ x6 then (if x6 < (((rd_T50 x0 x5).f0).length : Int) then (if (rdOf ByteArray.empty ((rd_T50 x0 x5).f0) x6).toList = x1.toList then (if x6 < (((rd_T50 x0 x5).f1).length : Int) then (some (rdOf ByteArray.empty ((rd_T50 x0 x5).f1) x6)) else (none)) else (bellowsref10_Get.l1 k x0 x1 x5 (wrap64 (x6 - 1)))) else (none)) else (none)) else (none)) else (none)) else (bellowsref10_Get.l0 k x0 x1 (wrap64 (x5 + 1)))
end
def bellowsref10_Get.f (k : Nat) (l0 : List (S50)) (a1 : ByteArray) : Option (ByteArray) := bellowsref10_Get.l0 k l0 a1 0
theorem bellowsref10_Get.mono_l : ∀ k, (∀ y0 y1 y2, LeO (bellowsref10_Get.l0 k y0 y1 y2) (bellowsref10_Get.l0 (k + 1) y0 y1 y2)) ∧ (∀ y0 y1 y2 y3, LeO (bellowsref10_Get.l1 k y0 y1 y2 y3) (bellowsref10_Get.l1 (k + 1) y0 y1 y2 y3))
  | 0 => ⟨fun _ _ _ r h => by simp [bellowsref10_Get.l0] at h, fun _ _ _ _ r h => by simp [bellowsref10_Get.l1] at h⟩
  | k + 1 => by
    obtain ⟨ih0, ih1⟩ := bellowsref10_Get.mono_l k
    refine ⟨?_, ?_⟩
    · intro y0 y1 y2
      unfold bellowsref10_Get.l0
      repeat' first
      | (with_reducible exact ih0 _ _ _)
      | (with_reducible exact ih1 _ _ _ _)
      | (with_reducible exact LeO.refl _)
      | (with_reducible exact LeO.none _)
      | (with_reducible refine LeO.ite ?_ ?_)
      | (with_reducible refine LeO.bind ?_ (fun _ => ?_))
      | exact ih0 _ _ _
      | exact ih1 _ _ _ _
      | exact LeO.none _
      | refine LeO.ite ?_ ?_
      | refine LeO.bind ?_ (fun _ => ?_)
    · intro y0 y1 y2 y3
      unfold bellowsref10_Get.l1
      repeat' first
      | (with_reducible exact ih0 _ _ _)
      | (with_reducible exact ih1 _ _ _ _)
      | (with_reducible exact LeO.refl _)
      | (with_reducible exact LeO.none _)
      | (with_reducible refine LeO.ite ?_ ?_)
      | (with_reducible refine LeO.bind ?_ (fun _ => ?_))
      | exact ih0 _ _ _
      | exact ih1 _ _ _ _
      | exact LeO.none _
      | refine LeO.ite ?_ ?_
      | refine LeO.bind ?_ (fun _ => ?_)
theorem bellowsref10_Get.mono : ∀ a0 a1 k, LeO (bellowsref10_Get.f k a0 a1) (bellowsref10_Get.f (k + 1) a0 a1) := by
  intro a0 a1 k
  obtain ⟨ih0, ih1⟩ := bellowsref10_Get.mono_l k
  unfold bellowsref10_Get.f
  repeat' first
      | (with_reducible exact ih0 _ _ _)
      | (with_reducible exact ih1 _ _ _ _)
      | (with_reducible exact LeO.refl _)
      | (with_reducible exact LeO.none _)
      | (with_reducible refine LeO.ite ?_ ?_)
      | (with_reducible refine LeO.bind ?_ (fun _ => ?_))
      | exact ih0 _ _ _
      | exact ih1 _ _ _ _
      | exact LeO.none _
      | refine LeO.ite ?_ ?_
      | refine LeO.bind ?_ (fun _ => ?_)
set_option maxHeartbeats 8000000 in
set_option maxRecDepth 100000 in
theorem bellowsref10_Get.calls (k : Nat) (A0 : Option Addr) (c0 : Nat) (l0 : List (S50)) (a1 : ByteArray) (r : ByteArray) (w : World) (hr0 : Kd.C k50 w A0 l0.length l0) (hc0 : l0.length ≤ c0) (h : bellowsref10_Get.f k l0 a1 = some r) :
    Calls Try.prog 14 #[.slice A0 l0.length c0, .string a1] w fun e w' => e = .returned (.string r) ∧ Drawn0 w w' := by
  have HR0 := Aside0.mk hr0
  have HC0 := Aside0.mk hc0
  clear hr0 hc0
  have H : (bellowsref10_Get.l0 k l0 a1 0) = some r := h
  clear h
  have H' := Aside0.mk H
  clear H
  go_enter Try.func14, Try.ntmps14
  go_wp2
  go_loopg [5] k (fun kq v5 w' => ∃ (x5_1 : Int), v5 = .int .i64 x5_1 ∧ Aside0 (bellowsref10_Get.l0 kq l0 a1 x5_1 = some r) ∧ Aside0 (kq ≤ k) ∧ Drawn0 w w')
  case atStart => exact ⟨(0), (by first | rfl | (simp; done) | (simp [*]; done)), H', ⟨Nat.le_refl _⟩, by repeat (first | exact Drawn0.refl _ | apply Drawn0.step)⟩
  case round =>
    clear H'
    try clear c1
    try clear p2
    obtain ⟨x5_1, rfl, HA, HK1, ⟨m1, rfl⟩⟩ := hrel
    cases gk with
    | zero => exact absurd HA.out (by simp [bellowsref10_Get.l0])
    | succ k1 =>
      have H := HA.out
      clear HA
      simp only [bellowsref10_Get.l0] at H
      by_cases c3 : x5_1 < (l0.length : Int)
      · rw [if_pos c3] at H
        have c3b0 : decide (x5_1 < (l0.length : Int)) = true := decide_eq_true c3
        clear c3
        by_cases c4 : 0 ≤ x5_1
        · rw [if_pos c4] at H
          have c4b0 : decide (0 ≤ x5_1) = true := decide_eq_true c4
          clear c4
          have H' := Aside0.mk H
          clear H
          have p106 : 0 ≤ (x5_1 : Int) := of_decide_eq_true (by first | (with_reducible assumption) | assumption)
          have q106 : x5_1 < (l0.length : Int) := of_decide_eq_true (by first | (with_reducible assumption) | assumption)
          obtain ⟨ad106, A106_0, c106_0, A106_1, c106_1, e106, hx106_0, hx106_1, hl106_0, hi106_0, hl106_1, hi106_1⟩ := at_T50 HR0.out x5_1 p106 q106
          cases e106
          have HR106_0 := Aside0.mk hi106_0
          have HC106_0 := Aside0.mk hl106_0
          clear hi106_0 hl106_0
          have HR106_1 := Aside0.mk hi106_1
          have HC106_1 := Aside0.mk hl106_1
          clear hi106_1 hl106_1
          replace p106 := eq_true p106
          replace q106 := eq_true q106
          go_wp2
          go_loopg [6] k1 (fun kq v6 w' => ∃ (x6_2 : Int), v6 = .int .i64 x6_2 ∧ Aside0 (bellowsref10_Get.l1 kq l0 a1 x5_1 x6_2 = some r) ∧ Aside0 (kq ≤ k1) ∧ Drawn0 w w')
          case atStart => exact ⟨(wrap64 ((((rd_T50 l0 x5_1).f0).length : Int) - 1)), (by first | rfl | (simp; done) | (simp [*]; done)), H', ⟨Nat.le_refl _⟩, by repeat (first | exact Drawn0.refl _ | apply Drawn0.step)⟩
          case round =>
            clear H'
            try clear c1
            try clear p1
            try clear q1
            try clear hx1
            try clear p2
            try clear c3
            try clear c3b0
            try clear c4
            try clear c4b0
            try clear hx106_0
            try clear hx106_1
            try clear p106
            try clear p2
            try clear q106
            obtain ⟨x6_2, rfl, HA, HK2, ⟨m2, rfl⟩⟩ := hrel
            cases gk with
            | zero => exact absurd HA.out (by simp [bellowsref10_Get.l1])
            | succ k2 =>
              have H := HA.out
              clear HA
              simp only [bellowsref10_Get.l1] at H
              by_cases c5 : x6_2 ≥ 0
              · rw [if_pos c5] at H
                have c5b0 : decide (0 ≤ x6_2) = true := decide_eq_true c5
                clear c5
                by_cases c6 : 0 ≤ x5_1
                · rw [if_pos c6] at H
                  have c6b0 : decide (0 ≤ x5_1) = true := decide_eq_true c6
                  clear c6
                  by_cases c7 : x5_1 < (l0.length : Int)
                  · rw [if_pos c7] at H
                    have c7b0 : decide (x5_1 < (l0.length : Int)) = true := decide_eq_true c7
                    clear c7
                    by_cases c8 : 0 ≤ x6_2
                    · rw [if_pos c8] at H
                      have c8b0 : decide (0 ≤ x6_2) = true := decide_eq_true c8
                      clear c8
                      by_cases c9 : x6_2 < (((rd_T50 l0 x5_1).f0).length : Int)
                      · rw [if_pos c9] at H
                        have c9b0 : decide (x6_2 < (((rd_T50 l0 x5_1).f0).length : Int)) = true := decide_eq_true c9
                        clear c9
                        by_cases c10 : (rdOf ByteArray.empty ((rd_T50 l0 x5_1).f0) x6_2).toList = a1.toList
                        · rw [if_pos c10] at H
                          have c10b0 : ((rdOf ByteArray.empty ((rd_T50 l0 x5_1).f0) x6_2).toList == a1.toList) = true := beq_iff_eq.mpr c10
                          have c10b1 : ((rdOf ByteArray.empty ((rd_T50 l0 x5_1).f0) x6_2).toList != a1.toList) = false := bne_eq_false_iff_eq.mpr c10
                          clear c10
                          by_cases c11 : x6_2 < (((rd_T50 l0 x5_1).f1).length : Int)
                          · rw [if_pos c11] at H
                            have c11b0 : decide (x6_2 < (((rd_T50 l0 x5_1).f1).length : Int)) = true := decide_eq_true c11
                            clear c11
                            obtain rfl := Option.some.inj H
                            have p107 : 0 ≤ (x5_1 : Int) := of_decide_eq_true (by first | (with_reducible assumption) | assumption)
                            have q107 : x5_1 < (l0.length : Int) := of_decide_eq_true (by first | (with_reducible assumption) | assumption)
                            obtain ⟨ad107, A107_0, c107_0, A107_1, c107_1, e107, hx107_0, hx107_1, hl107_0, hi107_0, hl107_1, hi107_1⟩ := at_T50 HR0.out x5_1 p107 q107
                            obtain rfl : ad106 = ad107 := (by injection e107)
                            have HR107_0 := Aside0.mk hi107_0
                            have HC107_0 := Aside0.mk hl107_0
                            clear hi107_0 hl107_0
                            have HR107_1 := Aside0.mk hi107_1
                            have HC107_1 := Aside0.mk hl107_1
                            clear hi107_1 hl107_1
                            replace p107 := eq_true p107
                            replace q107 := eq_true q107
                            have p108 : 0 ≤ (x6_2 : Int) := of_decide_eq_true (by first | (with_reducible assumption) | assumption)
                            have q108 : x6_2 < (((rd_T50 l0 x5_1).f0).length : Int) := of_decide_eq_true (by first | (with_reducible assumption) | assumption)
                            obtain ⟨ad108, e108, hx108_0⟩ := Kd.at_string HR107_0.out x6_2 p108 q108
                            cases e108
                            replace p108 := eq_true p108
                            replace q108 := eq_true q108
                            have p109 : 0 ≤ (x5_1 : Int) := of_decide_eq_true (by first | (with_reducible assumption) | assumption)
                            have q109 : x5_1 < (l0.length : Int) := of_decide_eq_true (by first | (with_reducible assumption) | assumption)
                            obtain ⟨ad109, A109_0, c109_0, A109_1, c109_1, e109, hx109_0, hx109_1, hl109_0, hi109_0, hl109_1, hi109_1⟩ := at_T50 HR0.out x5_1 p109 q109
                            obtain rfl : ad106 = ad109 := (by injection e109)
                            have HR109_0 := Aside0.mk hi109_0
                            have HC109_0 := Aside0.mk hl109_0
                            clear hi109_0 hl109_0
                            have HR109_1 := Aside0.mk hi109_1
                            have HC109_1 := Aside0.mk hl109_1
                            clear hi109_1 hl109_1
                            replace p109 := eq_true p109
                            replace q109 := eq_true q109
                            have ea_ := Option.some.inj (hx107_0.symm.trans hx109_0)
                            injection ea_ with ea_ en_ ec_
                            subst ea_
                            subst ec_
                            clear en_
                            have ea_ := Option.some.inj (hx107_1.symm.trans hx109_1)
                            injection ea_ with ea_ en_ ec_
                            subst ea_
                            subst ec_
                            clear en_
                            have p110 : 0 ≤ (x6_2 : Int) := of_decide_eq_true (by first | (with_reducible assumption) | assumption)
                            have q110 : x6_2 < (((rd_T50 l0 x5_1).f1).length : Int) := of_decide_eq_true (by first | (with_reducible assumption) | assumption)
                            obtain ⟨ad110, e110, hx110_0⟩ := Kd.at_string HR109_1.out x6_2 p110 q110
                            cases e110
                            replace p110 := eq_true p110
                            replace q110 := eq_true q110
                            go_wp2
                            go_ret
                            exact ⟨by first | rfl | (simp; done) | (simp [*]; done), by repeat (first | exact Drawn0.refl _ | apply Drawn0.step)⟩
                          · rw [if_neg c11] at H
                            exact absurd H (by simp)
                        · rw [if_neg c10] at H
                          have c10b0 : ((rdOf ByteArray.empty ((rd_T50 l0 x5_1).f0) x6_2).toList == a1.toList) = false := beq_eq_false_iff_ne.mpr c10
                          have c10b1 : ((rdOf ByteArray.empty ((rd_T50 l0 x5_1).f0) x6_2).toList != a1.toList) = true := bne_iff_ne.mpr c10
                          have H' := Aside0.mk H
                          clear H
                          have p107 : 0 ≤ (x5_1 : Int) := of_decide_eq_true (by first | (with_reducible assumption) | assumption)
                          have q107 : x5_1 < (l0.length : Int) := of_decide_eq_true (by first | (with_reducible assumption) | assumption)
                          obtain ⟨ad107, A107_0, c107_0, A107_1, c107_1, e107, hx107_0, hx107_1, hl107_0, hi107_0, hl107_1, hi107_1⟩ := at_T50 HR0.out x5_1 p107 q107
                          obtain rfl : ad106 = ad107 := (by injection e107)
                          have HR107_0 := Aside0.mk hi107_0
                          have HC107_0 := Aside0.mk hl107_0
                          clear hi107_0 hl107_0
                          have HR107_1 := Aside0.mk hi107_1
                          have HC107_1 := Aside0.mk hl107_1
                          clear hi107_1 hl107_1
                          replace p107 := eq_true p107
                          replace q107 := eq_true q107
                          have p108 : 0 ≤ (x6_2 : Int) := of_decide_eq_true (by first | (with_reducible assumption) | assumption)
                          have q108 : x6_2 < (((rd_T50 l0 x5_1).f0).length : Int) := of_decide_eq_true (by first | (with_reducible assumption) | assumption)
                          obtain ⟨ad108, e108, hx108_0⟩ := Kd.at_string HR107_0.out x6_2 p108 q108
                          cases e108
                          replace p108 := eq_true p108
                          replace q108 := eq_true q108
                          go_wp2
                          go_roundg k2
                          case measure => have := HK1.out; have := HK2.out; omega
                          case rel => exact ⟨(wrap64 (x6_2 - 1)), (by first | rfl | (simp; done) | (simp [*]; done)), H', ⟨by have := HK1.out; have := HK2.out; omega⟩, by repeat (first | exact Drawn0.refl _ | apply Drawn0.step)⟩
                      · rw [if_neg c9] at H
                        exact absurd H (by simp)
                    · rw [if_neg c8] at H
                      exact absurd H (by simp)
                  · rw [if_neg c7] at H
                    exact absurd H (by simp)
                · rw [if_neg c6] at H
                  exact absurd H (by simp)
              · rw [if_neg c5] at H
                have c5b0 : decide (0 ≤ x6_2) = false := decide_eq_false c5
                clear c5
                have H' := Aside0.mk H
                clear H
                go_wp2
                go_roundg k2
                case measure => have := HK1.out; have := HK2.out; omega
                case rel => exact ⟨(wrap64 (x5_1 + 1)), (by first | rfl | (simp; done) | (simp [*]; done)), H', ⟨by have := HK1.out; have := HK2.out; omega⟩, by repeat (first | exact Drawn0.refl _ | apply Drawn0.step)⟩
        · rw [if_neg c4] at H
          exact absurd H (by simp)
      · rw [if_neg c3] at H
        have c3b0 : decide (x5_1 < (l0.length : Int)) = false := decide_eq_false c3
        clear c3
        obtain rfl := Option.some.inj H
        go_wp2
        go_ret
        exact ⟨by first | rfl | (simp; done) | (simp [*]; done), by repeat (first | exact Drawn0.refl _ | apply Drawn0.step)⟩

end Go.Proofs.Ytlpjhpdgjeiioaa.P
