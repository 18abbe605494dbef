-- printed by wip/tools/pr.py, a program of this session's, with the kit's print.py
import Derived.Test.YtlpjhpdgjeiioaaP0
import Derived.Test.YtlpjhpdgjeiioaaPBellowsref10Get0
import Derived.Test.YtlpjhpdgjeiioaaPBellowsref10Name0
import Derived.Test.YtlpjhpdgjeiioaaPBellowsref10Short0
namespace Go.Proofs.Ytlpjhpdgjeiioaa.P
open Go.RowKit Go.Proofs.YtlpjhpdgjeiioaaW.PrintWords Go.Proofs.YtlpjhpdgjeiioaaW.PrintLast Go.Proofs.YtlpjhpdgjeiioaaW.PrintMore
attribute [local go_sem] max2_int min2_int max_two min_two max_three min_three max_four min_four
set_option linter.unusedVariables false
set_option linter.unusedSimpArgs false
theorem wrap_two_YtlpjhpdgjeiioaaPBellowsref10Expand0 (a b : Nat) (h : a + b ≤ 9223372036854775807) : wrap64 ((a : Int) + (b : Int)) = (a : Int) + (b : Int) := by unfold wrap64; omega

/-! ### bellowsref10_Expand: function 12 -/
mutual
def bellowsref10_Expand.l0 : Nat → List (S50) → ByteArray → ByteArray → Bool → Int → Option (ByteArray × Int)
  | 0, _, _, _, _, _ => none
  | k + 1, x0, x1, x6, x7, x8 => if x8 < (x1.size : Int) then (if 0 ≤ x8 then (if (bt x1 x8) = 36 then (if (wrap64 (x8 + 1)) = (x1.size : Int) then (some ((⟨#[]⟩ : ByteArray), 10)) else (if 0 ≤ (wrap64 (x8 + 1)) then (if (wrap64 (x8 + 1)) < (x1.size : Int) then (if (bt x1 (wrap64 (x8 + 1))) = 36 then (bellowsref10_Expand.j1 k x0 x1 x6 x7 (wrap64 (x8 + 1)) (bt x1 (wrap64 (x8 + 1))) true) else (if (bt x1 (wrap64 (x8 + 1))) = 32 then (bellowsref10_Expand.j1 k x0 x1 x6 x7 (wrap64 (x8 + 1)) (bt x1 (wrap64 (x8 + 1))) true) else (if (bt x1 (wrap64 (x8 + 1))) = 58 then (bellowsref10_Expand.j1 k x0 x1 x6 x7 (wrap64 (x8 + 1)) (bt x1 (wrap64 (x8 + 1))) true) else (bellowsref10_Expand.j1 k x0 x1 x6 x7 (wrap64 (x8 + 1)) (bt x1 (wrap64 (x8 + 1))) ((bt x1 (wrap64 (x8 + 1))) == 124))))) else (none)) else (none))) else (if x8 ≤ (wrap64 (x8 + 1)) then (if (wrap64 (x8 + 1)) ≤ (x1.size : Int) then (if x6.size + (x1.extract (x8 : Int).toNat ((wrap64 (x8 + 1)) : Int).toNat).size ≤ 9223372036854775807 then (bellowsref10_Expand.l0 k x0 x1 (x6 ++ (x1.extract (x8 : Int).toNat ((wrap64 (x8 + 1)) : Int).toNat)) x7 (wrap64 (x8 + 1))) else (none)) else (none)) else (none))) else (none)) else (if x7 = true then (some ((⟨#[]⟩ : ByteArray), 3)) else (if (x6.size : Int) > 16384 then (some ((⟨#[]⟩ : ByteArray), 3)) else (some (x6, 0))))
def bellowsref10_Expand.j5 : Nat → List (S50) → ByteArray → ByteArray → Bool → Int → ByteArray → Option (ByteArray × Int)
  | 0, _, _, _, _, _, _ => none
  | k + 1, x0, x1, x6, x7, x8, x9 => if (wrap64 ((x6.size : Int) + (x9.size : Int))) > 16384 then (bellowsref10_Expand.l0 k x0 x1 x6 true x8) else (if x7 = true then (bellowsref10_Expand.l0 k x0 x1 x6 x7 x8) else (if x6.size + x9.size ≤ 9223372036854775807 then (bellowsref10_Expand.l0 k x0 x1 (x6 ++ x9) x7 x8) else (none)))
def bellowsref10_Expand.j1 : Nat → List (S50) → ByteArray → ByteArray → Bool → Int → Int → Bool → Option (ByteArray × Int)
  | 0, _, _, _, _, _, _, _ => none
  | k + 1, x0, x1, x6, x7, x8, x10, x39 => if x39 = true then (if 0 ≤ x8 then (if x8 ≤ (wrap64 (x8 + 1)) then (if (wrap64 (x8 + 1)) ≤ (x1.size : Int) then (bellowsref10_Expand.j5 k x0 x1 x6 x7 (wrap64 (x8 + 1)) (x1.extract (x8 : Int).toNat ((wrap64 (x8 + 1)) : Int).toNat)) else (none)) else (none)) else (none)) else (if x10 = 123 then (bellowsref10_Expand.l1 k x0 x1 x6 x7 x8 x8) else ((bellowsref10_short.f x10).bind fun t113 => (if t113 = true then (bellowsref10_Expand.l2 k x0 x1 x6 x7 x8 x8) else (some ((⟨#[]⟩ : ByteArray), 10)))))
def bellowsref10_Expand.j3 : Nat → List (S50) → ByteArray → ByteArray → Bool → Int → Int → Option (ByteArray × Int)
  | 0, _, _, _, _, _, _ => none
  | k + 1, x0, x1, x6, x7, x8, x11 => if x11 = (x1.size : Int) then (some ((⟨#[]⟩ : ByteArray), 10)) else (if 0 ≤ (wrap64 (x8 + 1)) then (if (wrap64 (x8 + 1)) ≤ x11 then (if x11 ≤ (x1.size : Int) then ((bellowsref10_Name.f k (x1.extract ((wrap64 (x8 + 1)) : Int).toNat (x11 : Int).toNat)).bind fun t111 => (if t111 = true then ((bellowsref10_Get.f k x0 (x1.extract ((wrap64 (x8 + 1)) : Int).toNat (x11 : Int).toNat)).bind fun t112 => (bellowsref10_Expand.j5 k x0 x1 x6 x7 (wrap64 (x11 + 1)) t112)) else (some ((⟨#[]⟩ : ByteArray), 10)))) else (none)) else (none)) else (none))
def bellowsref10_Expand.l1 : Nat → List (S50) → ByteArray → ByteArray → Bool → Int → Int → Option (ByteArray × Int)
  | 0, _, _, _, _, _, _ => none
  | k + 1, x0, x1, x6, x7, x8, x11 => if x11 < (x1.size : Int) then (if 0 ≤ x11 then (if (bt x1 x11) = 125 then (bellowsref10_Expand.j3 k x0 x1 x6 x7 x8 x11) else (bellowsref10_Expand.l1 k x0 x1 x6 x7 x8 (wrap64 (x11 + 1)))) else (none)) else (bellowsref10_Expand.j3 k x0 x1 x6 x7 x8 x11)
def bellowsref10_Expand.l2 : Nat → List (S50) → ByteArray → ByteArray → Bool → Int → Int → Option (ByteArray × Int)
  | 0, _, _, _, _, _, _ => none
  | k + 1, x0, x1, x6, x7, x8, x12 => if x12 < (x1.size : Int) then (if 0 ≤ x12 then ((bellowsref10_short.f (bt x1 x12)).bind fun t114 => (if t114 = true then (bellowsref10_Expand.l2 k x0 x1 x6 x7 x8 (wrap64 (x12 + 1))) else (if 0 ≤ x8 then (if x8 ≤ x12 then (if x12 ≤ (x1.size : Int) then ((bellowsref10_Get.f k x0 (x1.extract (x8 : Int).toNat (x12 : Int).toNat)).bind fun t115 => (bellowsref10_Expand.j5 k x0 x1 x6 x7 x12 t115)) else (none)) else (none)) else (none)))) else (none)) else (if 0 ≤ x8 then (if x8 ≤ x12 then (if x12 ≤ (x1.size : Int) then ((bellowsref10_Get.f k x0 (x1.extract (x8 : Int).toNat (x12 : Int).toNat)).bind fun t116 => (bellowsref10_Expand.j5 k x0 x1 x6 x7 x12 t116)) else (none)) else (none)) else (none))
end
def bellowsref10_Expand.f (k : Nat) (l0 : List (S50)) (a1 : ByteArray) : Option (ByteArray × Int) := bellowsref10_Expand.l0 k l0 a1 (⟨#[]⟩ : ByteArray) false 0
theorem bellowsref10_Expand.mono_l : ∀ k, (∀ y0 y1 y2 y3 y4, LeO (bellowsref10_Expand.l0 k y0 y1 y2 y3 y4) (bellowsref10_Expand.l0 (k + 1) y0 y1 y2 y3 y4)) ∧ (∀ y0 y1 y2 y3 y4 y5, LeO (bellowsref10_Expand.j5 k y0 y1 y2 y3 y4 y5) (bellowsref10_Expand.j5 (k + 1) y0 y1 y2 y3 y4 y5)) ∧ (∀ y0 y1 y2 y3 y4 y5 y6, LeO (bellowsref10_Expand.j1 k y0 y1 y2 y3 y4 y5 y6) (bellowsref10_Expand.j1 (k + 1) y0 y1 y2 y3 y4 y5 y6)) ∧ (∀ y0 y1 y2 y3 y4 y5, LeO (bellowsref10_Expand.j3 k y0 y1 y2 y3 y4 y5) (bellowsref10_Expand.j3 (k + 1) y0 y1 y2 y3 y4 y5)) ∧ (∀ y0 y1 y2 y3 y4 y5, LeO (bellowsref10_Expand.l1 k y0 y1 y2 y3 y4 y5) (bellowsref10_Expand.l1 (k + 1) y0 y1 y2 y3 y4 y5)) ∧ (∀ y0 y1 y2 y3 y4 y5, LeO (bellowsref10_Expand.l2 k y0 y1 y2 y3 y4 y5) (bellowsref10_Expand.l2 (k + 1) y0 y1 y2 y3 y4 y5))
  | 0 => ⟨fun _ _ _ _ _ r h => by simp [bellowsref10_Expand.l0] at h, fun _ _ _ _ _ _ r h => by simp [bellowsref10_Expand.j5] at h, fun _ _ _ _ _ _ _ r h => by simp [bellowsref10_Expand.j1] at h, fun _ _ _ _ _ _ r h => by simp [bellowsref10_Expand.j3] at h, fun _ _ _ _ _ _ r h => by simp [bellowsref10_Expand.l1] at h, fun _ _ _ _ _ _ r h => by simp [bellowsref10_Expand.l2] at h⟩
  | k + 1 => by
    obtain ⟨ih0, ih1, ih2, ih3, ih4, ih5⟩ := bellowsref10_Expand.mono_l k
    refine ⟨?_, ?_, ?_, ?_, ?_, ?_⟩
    · intro y0 y1 y2 y3 y4
      unfold bellowsref10_Expand.l0
      repeat' first
      | (with_reducible exact ih0 _ _ _ _ _)
      | (with_reducible exact ih1 _ _ _ _ _ _)
      | (with_reducible exact ih2 _ _ _ _ _ _ _)
      | (with_reducible exact ih3 _ _ _ _ _ _)
      | (with_reducible exact ih4 _ _ _ _ _ _)
      | (with_reducible exact ih5 _ _ _ _ _ _)
      | (with_reducible exact bellowsref10_Get.mono _ _ _)
      | (with_reducible exact bellowsref10_Name.mono _ _)
      | (with_reducible exact LeO.refl _)
      | (with_reducible exact LeO.none _)
      | (with_reducible refine LeO.ite ?_ ?_)
      | (with_reducible refine LeO.bind ?_ (fun _ => ?_))
      | exact ih0 _ _ _ _ _
      | exact ih1 _ _ _ _ _ _
      | exact ih2 _ _ _ _ _ _ _
      | exact ih3 _ _ _ _ _ _
      | exact ih4 _ _ _ _ _ _
      | exact ih5 _ _ _ _ _ _
      | exact bellowsref10_Get.mono _ _ _
      | exact bellowsref10_Name.mono _ _
      | exact LeO.none _
      | refine LeO.ite ?_ ?_
      | refine LeO.bind ?_ (fun _ => ?_)
    · intro y0 y1 y2 y3 y4 y5
      unfold bellowsref10_Expand.j5
      repeat' first
      | (with_reducible exact ih0 _ _ _ _ _)
      | (with_reducible exact ih1 _ _ _ _ _ _)
      | (with_reducible exact ih2 _ _ _ _ _ _ _)
      | (with_reducible exact ih3 _ _ _ _ _ _)
      | (with_reducible exact ih4 _ _ _ _ _ _)
      | (with_reducible exact ih5 _ _ _ _ _ _)
      | (with_reducible exact bellowsref10_Get.mono _ _ _)
      | (with_reducible exact bellowsref10_Name.mono _ _)
      | (with_reducible exact LeO.refl _)
      | (with_reducible exact LeO.none _)
      | (with_reducible refine LeO.ite ?_ ?_)
      | (with_reducible refine LeO.bind ?_ (fun _ => ?_))
      | exact ih0 _ _ _ _ _
      | exact ih1 _ _ _ _ _ _
      | exact ih2 _ _ _ _ _ _ _
      | exact ih3 _ _ _ _ _ _
      | exact ih4 _ _ _ _ _ _
      | exact ih5 _ _ _ _ _ _
      | exact bellowsref10_Get.mono _ _ _
      | exact bellowsref10_Name.mono _ _
      | exact LeO.none _
      | refine LeO.ite ?_ ?_
      | refine LeO.bind ?_ (fun _ => ?_)
    · intro y0 y1 y2 y3 y4 y5 y6
      unfold bellowsref10_Expand.j1
      repeat' first
      | (with_reducible exact ih0 _ _ _ _ _)
      | (with_reducible exact ih1 _ _ _ _ _ _)
      | (with_reducible exact ih2 _ _ _ _ _ _ _)
      | (with_reducible exact ih3 _ _ _ _ _ _)
      | (with_reducible exact ih4 _ _ _ _ _ _)
      | (with_reducible exact ih5 _ _ _ _ _ _)
      | (with_reducible exact bellowsref10_Get.mono _ _ _)
      | (with_reducible exact bellowsref10_Name.mono _ _)
      | (with_reducible exact LeO.refl _)
      | (with_reducible exact LeO.none _)
      | (with_reducible refine LeO.ite ?_ ?_)
      | (with_reducible refine LeO.bind ?_ (fun _ => ?_))
      | exact ih0 _ _ _ _ _
      | exact ih1 _ _ _ _ _ _
      | exact ih2 _ _ _ _ _ _ _
      | exact ih3 _ _ _ _ _ _
      | exact ih4 _ _ _ _ _ _
      | exact ih5 _ _ _ _ _ _
      | exact bellowsref10_Get.mono _ _ _
      | exact bellowsref10_Name.mono _ _
      | exact LeO.none _
      | refine LeO.ite ?_ ?_
      | refine LeO.bind ?_ (fun _ => ?_)
    · intro y0 y1 y2 y3 y4 y5
      unfold bellowsref10_Expand.j3
      repeat' first
      | (with_reducible exact ih0 _ _ _ _ _)
      | (with_reducible exact ih1 _ _ _ _ _ _)
      | (with_reducible exact ih2 _ _ _ _ _ _ _)
      | (with_reducible exact ih3 _ _ _ _ _ _)
      | (with_reducible exact ih4 _ _ _ _ _ _)
      | (with_reducible exact ih5 _ _ _ _ _ _)
      | (with_reducible exact bellowsref10_Get.mono _ _ _)
      | (with_reducible exact bellowsref10_Name.mono _ _)
      | (with_reducible exact LeO.refl _)
      | (with_reducible exact LeO.none _)
      | (with_reducible refine LeO.ite ?_ ?_)
      | (with_reducible refine LeO.bind ?_ (fun _ => ?_))
      | exact ih0 _ _ _ _ _
      | exact ih1 _ _ _ _ _ _
      | exact ih2 _ _ _ _ _ _ _
      | exact ih3 _ _ _ _ _ _
      | exact ih4 _ _ _ _ _ _
      | exact ih5 _ _ _ _ _ _
      | exact bellowsref10_Get.mono _ _ _
      | exact bellowsref10_Name.mono _ _
      | exact LeO.none _
      | refine LeO.ite ?_ ?_
      | refine LeO.bind ?_ (fun _ => ?_)
    · intro y0 y1 y2 y3 y4 y5
      unfold bellowsref10_Expand.l1
      repeat' first
      | (with_reducible exact ih0 _ _ _ _ _)
      | (with_reducible exact ih1 _ _ _ _ _ _)
      | (with_reducible exact ih2 _ _ _ _ _ _ _)
      | (with_reducible exact ih3 _ _ _ _ _ _)
      | (with_reducible exact ih4 _ _ _ _ _ _)
      | (with_reducible exact ih5 _ _ _ _ _ _)
      | (with_reducible exact bellowsref10_Get.mono _ _ _)
      | (with_reducible exact bellowsref10_Name.mono _ _)
      | (with_reducible exact LeO.refl _)
      | (with_reducible exact LeO.none _)
      | (with_reducible refine LeO.ite ?_ ?_)
      | (with_reducible refine LeO.bind ?_ (fun _ => ?_))
      | exact ih0 _ _ _ _ _
      | exact ih1 _ _ _ _ _ _
      | exact ih2 _ _ _ _ _ _ _
      | exact ih3 _ _ _ _ _ _
      | exact ih4 _ _ _ _ _ _
      | exact ih5 _ _ _ _ _ _
      | exact bellowsref10_Get.mono _ _ _
      | exact bellowsref10_Name.mono _ _
      | exact LeO.none _
      | refine LeO.ite ?_ ?_
      | refine LeO.bind ?_ (fun _ => ?_)
    · intro y0 y1 y2 y3 y4 y5
      unfold bellowsref10_Expand.l2
      repeat' first
      | (with_reducible exact ih0 _ _ _ _ _)
      | (with_reducible exact ih1 _ _ _ _ _ _)
      | (with_reducible exact ih2 _ _ _ _ _ _ _)
      | (with_reducible exact ih3 _ _ _ _ _ _)
      | (with_reducible exact ih4 _ _ _ _ _ _)
      | (with_reducible exact ih5 _ _ _ _ _ _)
      | (with_reducible exact bellowsref10_Get.mono _ _ _)
      | (with_reducible exact bellowsref10_Name.mono _ _)
      | (with_reducible exact LeO.refl _)
      | (with_reducible exact LeO.none _)
      | (with_reducible refine LeO.ite ?_ ?_)
      | (with_reducible refine LeO.bind ?_ (fun _ => ?_))
      | exact ih0 _ _ _ _ _
      | exact ih1 _ _ _ _ _ _
      | exact ih2 _ _ _ _ _ _ _
      | exact ih3 _ _ _ _ _ _
      | exact ih4 _ _ _ _ _ _
      | exact ih5 _ _ _ _ _ _
      | exact bellowsref10_Get.mono _ _ _
      | exact bellowsref10_Name.mono _ _
      | exact LeO.none _
      | refine LeO.ite ?_ ?_
      | refine LeO.bind ?_ (fun _ => ?_)
theorem bellowsref10_Expand.mono : ∀ a0 a1 k, LeO (bellowsref10_Expand.f k a0 a1) (bellowsref10_Expand.f (k + 1) a0 a1) := by
  intro a0 a1 k
  obtain ⟨ih0, ih1, ih2, ih3, ih4, ih5⟩ := bellowsref10_Expand.mono_l k
  unfold bellowsref10_Expand.f
  repeat' first
      | (with_reducible exact ih0 _ _ _ _ _)
      | (with_reducible exact ih1 _ _ _ _ _ _)
      | (with_reducible exact ih2 _ _ _ _ _ _ _)
      | (with_reducible exact ih3 _ _ _ _ _ _)
      | (with_reducible exact ih4 _ _ _ _ _ _)
      | (with_reducible exact ih5 _ _ _ _ _ _)
      | (with_reducible exact bellowsref10_Get.mono _ _ _)
      | (with_reducible exact bellowsref10_Name.mono _ _)
      | (with_reducible exact LeO.refl _)
      | (with_reducible exact LeO.none _)
      | (with_reducible refine LeO.ite ?_ ?_)
      | (with_reducible refine LeO.bind ?_ (fun _ => ?_))
      | exact ih0 _ _ _ _ _
      | exact ih1 _ _ _ _ _ _
      | exact ih2 _ _ _ _ _ _ _
      | exact ih3 _ _ _ _ _ _
      | exact ih4 _ _ _ _ _ _
      | exact ih5 _ _ _ _ _ _
      | exact bellowsref10_Get.mono _ _ _
      | exact bellowsref10_Name.mono _ _
      | exact LeO.none _
      | refine LeO.ite ?_ ?_
      | refine LeO.bind ?_ (fun _ => ?_)
set_option maxHeartbeats 8000000 in
set_option maxRecDepth 100000 in
theorem bellowsref10_Expand.calls (k : Nat) (A0 : Option Addr) (c0 : Nat) (l0 : List (S50)) (a1 : ByteArray) (r1 : ByteArray) (r2 : Int) (w : World) (hr0 : Kd.C k50 w A0 l0.length l0) (hc0 : l0.length ≤ c0) (h : bellowsref10_Expand.f k l0 a1 = some (r1, r2)) :
    Calls Try.prog 12 #[.slice A0 l0.length c0, .string a1] w fun e w' => e = .returned (.tuple #[.string r1, .int .i64 r2]) ∧ Drawn0 w w' := by
  have HR0 := Aside0.mk hr0
  have HC0 := Aside0.mk hc0
  clear hr0 hc0
  have H : (bellowsref10_Expand.l0 k l0 a1 (⟨#[]⟩ : ByteArray) false 0) = some (r1, r2) := h
  clear h
  have H' := Aside0.mk H
  clear H
  go_enter Try.func12, Try.ntmps12
  go_wp2
  go_loopg [6, 7, 8] k (fun kq v6 v7 v8 w' => ∃ (x6_1 : ByteArray) (x7_1 : Bool) (x8_1 : Int), v6 = .string x6_1 ∧ v7 = .bool x7_1 ∧ v8 = .int .i64 x8_1 ∧ Aside0 (bellowsref10_Expand.l0 kq l0 a1 x6_1 x7_1 x8_1 = some (r1, r2)) ∧ Aside0 (kq ≤ k) ∧ Drawn0 w w')
  case atStart => exact ⟨((⟨#[]⟩ : ByteArray)), (false), (0), (by first | rfl | (simp; done) | (simp [*]; done)), (by first | rfl | (simp; done) | (simp [*]; done)), (by first | rfl | (simp; done) | (simp [*]; done)), H', ⟨Nat.le_refl _⟩, by repeat (first | exact Drawn0.refl _ | apply Drawn0.step)⟩
  case round =>
    clear H'
    try clear c1
    try clear p2
    obtain ⟨x6_1, x7_1, x8_1, rfl, rfl, rfl, HA, HK1, ⟨m1, rfl⟩⟩ := hrel
    cases gk with
    | zero => exact absurd HA.out (by simp [bellowsref10_Expand.l0])
    | succ k1 =>
      have H := HA.out
      clear HA
      simp only [bellowsref10_Expand.l0] at H
      by_cases c3 : x8_1 < (a1.size : Int)
      · rw [if_pos c3] at H
        have c3b0 : decide (x8_1 < (a1.size : Int)) = true := decide_eq_true c3
        clear c3
        by_cases c4 : 0 ≤ x8_1
        · rw [if_pos c4] at H
          have c4b0 : decide (0 ≤ x8_1) = true := decide_eq_true c4
          clear c4
          by_cases c6 : (bt a1 x8_1) = 36
          · rw [if_pos c6] at H
            have c6b0 : ((bt a1 x8_1) == 36) = true := beq_iff_eq.mpr c6
            have c6b1 : ((bt a1 x8_1) != 36) = false := bne_eq_false_iff_eq.mpr c6
            clear c6
            by_cases c7 : (wrap64 (x8_1 + 1)) = (a1.size : Int)
            · rw [if_pos c7] at H
              have c7b0 : ((wrap64 (x8_1 + 1)) == (a1.size : Int)) = true := beq_iff_eq.mpr c7
              have c7b1 : ((wrap64 (x8_1 + 1)) != (a1.size : Int)) = false := bne_eq_false_iff_eq.mpr c7
              clear c7
              simp only [Option.some.injEq, Prod.mk.injEq] at H
              obtain ⟨rfl, rfl⟩ := H
              have p5 : 0 ≤ (x8_1 : Int) := of_decide_eq_true (by first | (with_reducible assumption) | assumption)
              have q5 : x8_1 < (a1.size : Int) := of_decide_eq_true (by first | (with_reducible assumption) | assumption)
              have hx5 := bt_at a1 x8_1
              replace p5 := eq_true p5
              replace q5 := eq_true q5
              go_wp2
              go_ret2
              exact ⟨by first | rfl | (simp; done) | (simp [*]; done), by repeat (first | exact Drawn0.refl _ | apply Drawn0.step)⟩
            · rw [if_neg c7] at H
              have c7b0 : ((wrap64 (x8_1 + 1)) == (a1.size : Int)) = false := beq_eq_false_iff_ne.mpr c7
              have c7b1 : ((wrap64 (x8_1 + 1)) != (a1.size : Int)) = true := bne_iff_ne.mpr c7
              obtain ⟨ji8, hji8⟩ : ∃ j_ : Int, (wrap64 (x8_1 + 1)) = j_ := ⟨_, rfl⟩
              replace H : (if 0 ≤ (ji8) then (if (ji8) < (a1.size : Int) then (if (bt a1 (ji8)) = 36 then (bellowsref10_Expand.j1 k1 l0 a1 x6_1 x7_1 ji8 (bt a1 (ji8)) true) else (if (bt a1 (ji8)) = 32 then (bellowsref10_Expand.j1 k1 l0 a1 x6_1 x7_1 ji8 (bt a1 (ji8)) true) else (if (bt a1 (ji8)) = 58 then (bellowsref10_Expand.j1 k1 l0 a1 x6_1 x7_1 ji8 (bt a1 (ji8)) true) else (bellowsref10_Expand.j1 k1 l0 a1 x6_1 x7_1 ji8 (bt a1 (ji8)) ((bt a1 (ji8)) == 124))))) else (none)) else (none)) = some (r1, r2) := by first | (rw [hji8] at H; exact H) | (simp only [hji8] at H ⊢; exact H)
              (try rw [hji8] at c7b0)
              (try rw [hji8] at c7b1)
              have hji8w : (IntKind.i64.wrap (x8_1 + 1)) = ji8 := (i64_w _).trans hji8
              by_cases c9 : 0 ≤ (ji8)
              · rw [if_pos c9] at H
                have c9b0 : decide (0 ≤ (ji8)) = true := decide_eq_true c9
                clear c9
                by_cases c10 : (ji8) < (a1.size : Int)
                · rw [if_pos c10] at H
                  have c10b0 : decide ((ji8) < (a1.size : Int)) = true := decide_eq_true c10
                  clear c10
                  have HC12 := Aside0.mk H
                  clear H
                  have p5 : 0 ≤ (x8_1 : Int) := of_decide_eq_true (by first | (with_reducible assumption) | assumption)
                  have q5 : x8_1 < (a1.size : Int) := of_decide_eq_true (by first | (with_reducible assumption) | assumption)
                  have hx5 := bt_at a1 x8_1
                  replace p5 := eq_true p5
                  replace q5 := eq_true q5
                  have p11 : 0 ≤ ((ji8) : Int) := of_decide_eq_true (by first | (with_reducible assumption) | assumption)
                  have q11 : (ji8) < (a1.size : Int) := of_decide_eq_true (by first | (with_reducible assumption) | assumption)
                  have hx11 := bt_at a1 (ji8)
                  replace p11 := eq_true p11
                  replace q11 := eq_true q11
                  go_upto_block 2 with (fail)
                  go_cut [8, 9] (fun v8 v9 wc => ∃ (kq : Nat) (x8_11 : Int) (x9_11 : ByteArray), v8 = .int .i64 x8_11 ∧ v9 = .string x9_11 ∧ Aside0 (bellowsref10_Expand.j5 kq l0 a1 x6_1 x7_1 x8_11 x9_11 = some (r1, r2)) ∧ Aside0 (kq ≤ k1) ∧ Drawn0 w wc)
                  case first =>
                    have H := HC12.out
                    clear HC12
                    have HC13 := Aside0.mk H
                    clear H
                    go_upto_region 14 with (fail)
                    go_cut [39] (fun v39 wc => ∃ (kq : Nat) (x39_12 : Bool), v39 = .bool x39_12 ∧ Aside0 (bellowsref10_Expand.j1 kq l0 a1 x6_1 x7_1 ji8 (bt a1 (ji8)) x39_12 = some (r1, r2)) ∧ Aside0 (kq ≤ k1) ∧ Drawn0 w wc)
                    case first =>
                      have H := HC13.out
                      clear HC13
                      by_cases c14 : (bt a1 (ji8)) = 36
                      · rw [if_pos c14] at H
                        have c14b0 : ((bt a1 (ji8)) == 36) = true := beq_iff_eq.mpr c14
                        have c14b1 : ((bt a1 (ji8)) != 36) = false := bne_eq_false_iff_eq.mpr c14
                        clear c14
                        (first | rw [c14b0] | (simp only [i64_w, i32_w]; rw [c14b0]) | skip)
                        have H' := Aside0.mk H
                        clear H
                        go_wp2
                        go_meet
                        case rel => exact ⟨_, (true), (by first | rfl | (simp; done) | (simp [*]; done)), H', ⟨by have := HK1.out; first | omega | exact Nat.le_refl _⟩, by repeat (first | exact Drawn0.refl _ | apply Drawn0.step)⟩
                      · rw [if_neg c14] at H
                        have c14b0 : ((bt a1 (ji8)) == 36) = false := beq_eq_false_iff_ne.mpr c14
                        have c14b1 : ((bt a1 (ji8)) != 36) = true := bne_iff_ne.mpr c14
                        (first | rw [c14b0] | (simp only [i64_w, i32_w]; rw [c14b0]) | skip)
                        by_cases c15 : (bt a1 (ji8)) = 32
                        · rw [if_pos c15] at H
                          have c15b0 : ((bt a1 (ji8)) == 32) = true := beq_iff_eq.mpr c15
                          have c15b1 : ((bt a1 (ji8)) != 32) = false := bne_eq_false_iff_eq.mpr c15
                          clear c15
                          have H' := Aside0.mk H
                          clear H
                          go_wp2
                          go_meet
                          case rel => exact ⟨_, (true), (by first | rfl | (simp; done) | (simp [*]; done)), H', ⟨by have := HK1.out; first | omega | exact Nat.le_refl _⟩, by repeat (first | exact Drawn0.refl _ | apply Drawn0.step)⟩
                        · rw [if_neg c15] at H
                          have c15b0 : ((bt a1 (ji8)) == 32) = false := beq_eq_false_iff_ne.mpr c15
                          have c15b1 : ((bt a1 (ji8)) != 32) = true := bne_iff_ne.mpr c15
                          by_cases c16 : (bt a1 (ji8)) = 58
                          · rw [if_pos c16] at H
                            have c16b0 : ((bt a1 (ji8)) == 58) = true := beq_iff_eq.mpr c16
                            have c16b1 : ((bt a1 (ji8)) != 58) = false := bne_eq_false_iff_eq.mpr c16
                            clear c16
                            have H' := Aside0.mk H
                            clear H
                            go_wp2
                            go_meet
                            case rel => exact ⟨_, (true), (by first | rfl | (simp; done) | (simp [*]; done)), H', ⟨by have := HK1.out; first | omega | exact Nat.le_refl _⟩, by repeat (first | exact Drawn0.refl _ | apply Drawn0.step)⟩
                          · rw [if_neg c16] at H
                            have c16b0 : ((bt a1 (ji8)) == 58) = false := beq_eq_false_iff_ne.mpr c16
                            have c16b1 : ((bt a1 (ji8)) != 58) = true := bne_iff_ne.mpr c16
                            have H' := Aside0.mk H
                            clear H
                            go_wp2
                            go_meet
                            case rel => exact ⟨_, (((bt a1 (ji8)) == 124)), (by first | rfl | (simp; done) | (simp only [← hji8] <;> (first | rfl | simp)) | (simp [*]; done)), H', ⟨by have := HK1.out; first | omega | exact Nat.le_refl _⟩, by repeat (first | exact Drawn0.refl _ | apply Drawn0.step)⟩
                    case rest =>
                      clear HC13
                      try clear c1
                      try clear p1
                      try clear q1
                      try clear hx1
                      try clear p2
                      try clear c3
                      try clear c3b0
                      try clear c4
                      try clear c4b0
                      try clear p5
                      try clear q5
                      try clear hx5
                      try clear c6
                      try clear c6b0
                      try clear c6b1
                      try clear p6
                      try clear c7
                      try clear c7b0
                      try clear c7b1
                      try clear c9
                      try clear c9b0
                      try clear c10
                      try clear c10b0
                      try clear p11
                      try clear q11
                      try clear hx11
                      try clear c12
                      try clear c14
                      try clear c14b0
                      try clear c14b1
                      try clear c15
                      try clear c15b0
                      try clear c15b1
                      try clear c16
                      try clear c16b0
                      try clear c16b1
                      try clear p11
                      try clear p2
                      try clear p5
                      try clear q11
                      try clear q5
                      obtain ⟨kq, x39_12, rfl, HA, HJ12, ⟨mc12, rfl⟩⟩ := hcut
                      cases kq with
                      | zero => exact absurd HA.out (by simp [bellowsref10_Expand.j1])
                      | succ kj12 =>
                        have H := HA.out
                        clear HA
                        simp only [bellowsref10_Expand.j1] at H
                        by_cases c17 : x39_12 = true
                        · subst c17
                          have H1 : (if 0 ≤ ji8 then (if ji8 ≤ (wrap64 (ji8 + 1)) then (if (wrap64 (ji8 + 1)) ≤ (a1.size : Int) then (bellowsref10_Expand.j5 kj12 l0 a1 x6_1 x7_1 (wrap64 (ji8 + 1)) (a1.extract (ji8 : Int).toNat ((wrap64 (ji8 + 1)) : Int).toNat)) else (none)) else (none)) else (none)) = some (r1, r2) := by rw [if_pos rfl] at H; exact H
                          clear H
                          have H := H1
                          clear H1
                          by_cases c18 : 0 ≤ ji8
                          · rw [if_pos c18] at H
                            have c18b0 := eq_true c18
                            have c18b1 : decide (0 ≤ ji8) = true := decide_eq_true c18
                            clear c18
                            by_cases c19 : ji8 ≤ (wrap64 (ji8 + 1))
                            · rw [if_pos c19] at H
                              have c19b0 := eq_true c19
                              have c19b1 : decide (ji8 ≤ (wrap64 (ji8 + 1))) = true := decide_eq_true c19
                              by_cases c20 : (wrap64 (ji8 + 1)) ≤ (a1.size : Int)
                              · rw [if_pos c20] at H
                                have c20b0 := eq_true c20
                                have c20b1 : decide ((wrap64 (ji8 + 1)) ≤ (a1.size : Int)) = true := decide_eq_true c20
                                have H' := Aside0.mk H
                                clear H
                                go_wp2
                                go_meet
                                case rel => exact ⟨_, (wrap64 (ji8 + 1)), (a1.extract (ji8 : Int).toNat ((wrap64 (ji8 + 1)) : Int).toNat), (by first | rfl | (simp; done) | (simp only [← hji8] <;> (first | rfl | simp)) | (simp [*]; done)), (by first | rfl | (simp; done) | (simp only [← hji8] <;> (first | rfl | simp)) | (simp [*]; done)), H', ⟨by have := HK1.out; have := HJ12.out; first | omega | exact Nat.le_refl _⟩, by repeat (first | exact Drawn0.refl _ | apply Drawn0.step)⟩
                              · rw [if_neg c20] at H
                                exact absurd H (by simp)
                            · rw [if_neg c19] at H
                              exact absurd H (by simp)
                          · rw [if_neg c18] at H
                            exact absurd H (by simp)
                        · replace c17 := Bool.eq_false_iff.mpr c17
                          subst c17
                          have H1 : (if (bt a1 (ji8)) = 123 then (bellowsref10_Expand.l1 kj12 l0 a1 x6_1 x7_1 ji8 ji8) else ((bellowsref10_short.f (bt a1 (ji8))).bind fun t113 => (if t113 = true then (bellowsref10_Expand.l2 kj12 l0 a1 x6_1 x7_1 ji8 ji8) else (some ((⟨#[]⟩ : ByteArray), 10))))) = some (r1, r2) := by rw [if_neg (show ¬ (false = true) by decide)] at H; exact H
                          clear H
                          have H := H1
                          clear H1
                          by_cases c21 : (bt a1 (ji8)) = 123
                          · rw [if_pos c21] at H
                            have c21b0 : ((bt a1 (ji8)) == 123) = true := beq_iff_eq.mpr c21
                            have c21b1 : ((bt a1 (ji8)) != 123) = false := bne_eq_false_iff_eq.mpr c21
                            clear c21
                            have HC22 := Aside0.mk H
                            clear H
                            go_upto_block 3 with (fail)
                            go_cut [11] (fun v11 wc => ∃ (kq : Nat) (x11_21 : Int), v11 = .int .i64 x11_21 ∧ Aside0 (bellowsref10_Expand.j3 kq l0 a1 x6_1 x7_1 ji8 x11_21 = some (r1, r2)) ∧ Aside0 (kq ≤ kj12) ∧ Drawn0 w wc)
                            case first =>
                              have H := HC22.out
                              clear HC22
                              have H' := Aside0.mk H
                              clear H
                              go_wp2
                              go_loopg [11] kj12 (fun kq v11 w' => ∃ (x11_3 : Int), v11 = .int .i64 x11_3 ∧ Aside0 (bellowsref10_Expand.l1 kq l0 a1 x6_1 x7_1 ji8 x11_3 = some (r1, r2)) ∧ Aside0 (kq ≤ kj12) ∧ Drawn0 w w')
                              case atStart => exact ⟨(ji8), (by first | rfl | (simp; done) | (simp only [← hji8] <;> (first | rfl | simp)) | (simp [*]; done)), H', ⟨Nat.le_refl _⟩, by repeat (first | exact Drawn0.refl _ | apply Drawn0.step)⟩
                              case round =>
                                clear H'
                                try clear c1
                                try clear p1
                                try clear q1
                                try clear hx1
                                try clear c2
                                try clear p2
                                try clear c3
                                try clear c3b0
                                try clear c4
                                try clear c4b0
                                try clear p5
                                try clear q5
                                try clear hx5
                                try clear c6
                                try clear c6b0
                                try clear c6b1
                                try clear p6
                                try clear c7
                                try clear c7b0
                                try clear c7b1
                                try clear c9
                                try clear c9b0
                                try clear c10
                                try clear c10b0
                                try clear p11
                                try clear q11
                                try clear hx11
                                try clear c12
                                try clear c14
                                try clear c14b0
                                try clear c14b1
                                try clear c15
                                try clear c15b0
                                try clear c15b1
                                try clear c16
                                try clear c16b0
                                try clear c16b1
                                try clear c17
                                try clear c18
                                try clear c18b0
                                try clear c18b1
                                try clear c19
                                try clear c19b0
                                try clear c19b1
                                try clear c20
                                try clear c20b0
                                try clear c20b1
                                try clear c21
                                try clear c21b0
                                try clear c21b1
                                try clear p1
                                try clear p11
                                try clear p2
                                try clear p5
                                try clear p6
                                try clear q1
                                try clear q11
                                try clear q5
                                obtain ⟨x11_3, rfl, HA, HK3, ⟨m3, rfl⟩⟩ := hrel
                                cases gk with
                                | zero => exact absurd HA.out (by simp [bellowsref10_Expand.l1])
                                | succ k3 =>
                                  have H := HA.out
                                  clear HA
                                  simp only [bellowsref10_Expand.l1] at H
                                  by_cases c23 : x11_3 < (a1.size : Int)
                                  · rw [if_pos c23] at H
                                    have c23b0 : decide (x11_3 < (a1.size : Int)) = true := decide_eq_true c23
                                    clear c23
                                    (first | rw [c23b0] | (simp only [i64_w, i32_w]; rw [c23b0]) | skip)
                                    by_cases c24 : 0 ≤ x11_3
                                    · rw [if_pos c24] at H
                                      have c24b0 : decide (0 ≤ x11_3) = true := decide_eq_true c24
                                      clear c24
                                      by_cases c26 : (bt a1 x11_3) = 125
                                      · rw [if_pos c26] at H
                                        have c26b0 : ((bt a1 x11_3) == 125) = true := beq_iff_eq.mpr c26
                                        have c26b1 : ((bt a1 x11_3) != 125) = false := bne_eq_false_iff_eq.mpr c26
                                        clear c26
                                        have H' := Aside0.mk H
                                        clear H
                                        have p25 : 0 ≤ (x11_3 : Int) := of_decide_eq_true (by first | (with_reducible assumption) | assumption)
                                        have q25 : x11_3 < (a1.size : Int) := of_decide_eq_true (by first | (with_reducible assumption) | assumption)
                                        have hx25 := bt_at a1 x11_3
                                        replace p25 := eq_true p25
                                        replace q25 := eq_true q25
                                        go_wp2
                                        go_meet
                                        case rel => exact ⟨_, (x11_3), (by first | rfl | (simp; done) | (simp [*]; done)), H', ⟨by have := HK1.out; have := HJ12.out; have := HK3.out; first | omega | exact Nat.le_refl _⟩, by repeat (first | exact Drawn0.refl _ | apply Drawn0.step)⟩
                                      · rw [if_neg c26] at H
                                        have c26b0 : ((bt a1 x11_3) == 125) = false := beq_eq_false_iff_ne.mpr c26
                                        have c26b1 : ((bt a1 x11_3) != 125) = true := bne_iff_ne.mpr c26
                                        have H' := Aside0.mk H
                                        clear H
                                        have p25 : 0 ≤ (x11_3 : Int) := of_decide_eq_true (by first | (with_reducible assumption) | assumption)
                                        have q25 : x11_3 < (a1.size : Int) := of_decide_eq_true (by first | (with_reducible assumption) | assumption)
                                        have hx25 := bt_at a1 x11_3
                                        replace p25 := eq_true p25
                                        replace q25 := eq_true q25
                                        go_wp2
                                        go_roundg k3
                                        case measure => have := HK1.out; have := HJ12.out; have := HK3.out; omega
                                        case rel => exact ⟨(wrap64 (x11_3 + 1)), (by first | rfl | (simp; done) | (simp [*]; done)), H', ⟨by have := HK1.out; have := HJ12.out; have := HK3.out; omega⟩, by repeat (first | exact Drawn0.refl _ | apply Drawn0.step)⟩
                                    · rw [if_neg c24] at H
                                      exact absurd H (by simp)
                                  · rw [if_neg c23] at H
                                    have c23b0 : decide (x11_3 < (a1.size : Int)) = false := decide_eq_false c23
                                    clear c23
                                    (first | rw [c23b0] | (simp only [i64_w, i32_w]; rw [c23b0]) | skip)
                                    have H' := Aside0.mk H
                                    clear H
                                    go_wp2
                                    go_meet
                                    case rel => exact ⟨_, (x11_3), (by first | rfl | (simp; done) | (simp [*]; done)), H', ⟨by have := HK1.out; have := HJ12.out; have := HK3.out; first | omega | exact Nat.le_refl _⟩, by repeat (first | exact Drawn0.refl _ | apply Drawn0.step)⟩
                            case rest =>
                              clear HC22
                              try clear c1
                              try clear p1
                              try clear q1
                              try clear hx1
                              try clear c2
                              try clear p2
                              try clear q2
                              try clear hx2
                              try clear c3
                              try clear c3b0
                              try clear c4
                              try clear c4b0
                              try clear p5
                              try clear q5
                              try clear hx5
                              try clear c6
                              try clear c6b0
                              try clear c6b1
                              try clear p6
                              try clear c7
                              try clear c7b0
                              try clear c7b1
                              try clear c9
                              try clear c9b0
                              try clear c10
                              try clear c10b0
                              try clear p11
                              try clear q11
                              try clear hx11
                              try clear c12
                              try clear c14
                              try clear c14b0
                              try clear c14b1
                              try clear c15
                              try clear c15b0
                              try clear c15b1
                              try clear c16
                              try clear c16b0
                              try clear c16b1
                              try clear c17
                              try clear c18
                              try clear c18b0
                              try clear c18b1
                              try clear c19
                              try clear c19b0
                              try clear c19b1
                              try clear c20
                              try clear c20b0
                              try clear c20b1
                              try clear c21
                              try clear c21b0
                              try clear c21b1
                              try clear c23
                              try clear c23b0
                              try clear c24
                              try clear c24b0
                              try clear p25
                              try clear q25
                              try clear hx25
                              try clear c26
                              try clear c26b0
                              try clear c26b1
                              try clear p1
                              try clear p11
                              try clear p2
                              try clear p25
                              try clear p5
                              try clear p6
                              try clear q1
                              try clear q11
                              try clear q25
                              try clear q5
                              obtain ⟨kq, x11_21, rfl, HA, HJ21, ⟨mc21, rfl⟩⟩ := hcut
                              cases kq with
                              | zero => exact absurd HA.out (by simp [bellowsref10_Expand.j3])
                              | succ kj21 =>
                                have H := HA.out
                                clear HA
                                simp only [bellowsref10_Expand.j3] at H
                                by_cases c27 : x11_21 = (a1.size : Int)
                                · rw [if_pos c27] at H
                                  have c27b0 : (x11_21 == (a1.size : Int)) = true := beq_iff_eq.mpr c27
                                  have c27b1 : (x11_21 != (a1.size : Int)) = false := bne_eq_false_iff_eq.mpr c27
                                  clear c27
                                  simp only [Option.some.injEq, Prod.mk.injEq] at H
                                  obtain ⟨rfl, rfl⟩ := H
                                  go_wp2
                                  go_ret2
                                  exact ⟨by first | rfl | (simp; done) | (simp only [← hji8] <;> (first | rfl | simp)) | (simp [*]; done), by repeat (first | exact Drawn0.refl _ | apply Drawn0.step)⟩
                                · rw [if_neg c27] at H
                                  have c27b0 : (x11_21 == (a1.size : Int)) = false := beq_eq_false_iff_ne.mpr c27
                                  have c27b1 : (x11_21 != (a1.size : Int)) = true := bne_iff_ne.mpr c27
                                  obtain ⟨ji28, hji28⟩ : ∃ j_ : Int, (wrap64 (ji8 + 1)) = j_ := ⟨_, rfl⟩
                                  replace H : (if 0 ≤ (ji28) then (if (ji28) ≤ x11_21 then (if x11_21 ≤ (a1.size : Int) then ((bellowsref10_Name.f kj21 (a1.extract ((ji28) : Int).toNat (x11_21 : Int).toNat)).bind fun t111 => (if t111 = true then ((bellowsref10_Get.f kj21 l0 (a1.extract ((ji28) : Int).toNat (x11_21 : Int).toNat)).bind fun t112 => (bellowsref10_Expand.j5 kj21 l0 a1 x6_1 x7_1 (wrap64 (x11_21 + 1)) t112)) else (some ((⟨#[]⟩ : ByteArray), 10)))) else (none)) else (none)) else (none)) = some (r1, r2) := by first | (rw [hji28] at H; exact H) | (simp only [hji28] at H ⊢; exact H)
                                  have hji28w : (IntKind.i64.wrap (ji8 + 1)) = ji28 := (i64_w _).trans hji28
                                  by_cases c29 : 0 ≤ (ji28)
                                  · rw [if_pos c29] at H
                                    have c29b0 := eq_true c29
                                    have c29b1 : decide (0 ≤ (ji28)) = true := decide_eq_true c29
                                    clear c29
                                    by_cases c30 : (ji28) ≤ x11_21
                                    · rw [if_pos c30] at H
                                      have c30b0 := eq_true c30
                                      have c30b1 : decide ((ji28) ≤ x11_21) = true := decide_eq_true c30
                                      clear c30
                                      by_cases c31 : x11_21 ≤ (a1.size : Int)
                                      · rw [if_pos c31] at H
                                        have c31b0 := eq_true c31
                                        have c31b1 : decide (x11_21 ≤ (a1.size : Int)) = true := decide_eq_true c31
                                        clear c31
                                        replace H := Option.bind_eq_some_iff.mp H
                                        obtain ⟨t111, A320, H⟩ := H
                                        replace H : (if t111 = true then ((bellowsref10_Get.f kj21 l0 (a1.extract ((ji28) : Int).toNat (x11_21 : Int).toNat)).bind fun t112 => (bellowsref10_Expand.j5 kj21 l0 a1 x6_1 x7_1 (wrap64 (x11_21 + 1)) t112)) else (some ((⟨#[]⟩ : ByteArray), 10))) = some (r1, r2) := H
                                        have A32 := Aside0.mk A320
                                        clear A320
                                        by_cases c33 : t111 = true
                                        · subst c33
                                          have H1 : ((bellowsref10_Get.f kj21 l0 (a1.extract ((ji28) : Int).toNat (x11_21 : Int).toNat)).bind fun t112 => (bellowsref10_Expand.j5 kj21 l0 a1 x6_1 x7_1 (wrap64 (x11_21 + 1)) t112)) = some (r1, r2) := by rw [if_pos rfl] at H; exact H
                                          clear H
                                          have H := H1
                                          clear H1
                                          have c34b0 := eq_true (of_decide_eq_true (by first | (with_reducible assumption) | assumption) : 0 ≤ (ji28))
                                          have c35b0 := eq_true (of_decide_eq_true (by first | (with_reducible assumption) | assumption) : (ji28) ≤ x11_21)
                                          have c36b0 := eq_true (of_decide_eq_true (by first | (with_reducible assumption) | assumption) : x11_21 ≤ (a1.size : Int))
                                          replace H := Option.bind_eq_some_iff.mp H
                                          obtain ⟨t112, A370, H⟩ := H
                                          replace H : (bellowsref10_Expand.j5 kj21 l0 a1 x6_1 x7_1 (wrap64 (x11_21 + 1)) t112) = some (r1, r2) := H
                                          have A37 := Aside0.mk A370
                                          clear A370
                                          have H' := Aside0.mk H
                                          clear H
                                          go_wp2_with (first | (go_at_call 21; (with_reducible refine (bellowsref10_Name.calls kj21 (a1.extract ((ji28) : Int).toNat (x11_21 : Int).toNat) true _ A32.out).mono ?_); rintro e w' ⟨rfl, ⟨nd, rfl⟩⟩) | ((with_reducible refine gate_callee (f := 14) rfl ?_); refine goesL_ (some 96) rfl rfl Try.func14 (by kernel_rfl) rfl #[.slice A0 l0.length c0, .string (a1.extract ((ji28) : Int).toNat (x11_21 : Int).toNat)] rfl (by (try simp only [List.map_toArray, List.map_cons, List.map_nil]); first | done | (simp only [hji28]; rfl) | rfl | (simp only [List.length_drop, List.length_take]; rfl)) ?_; (with_reducible refine (bellowsref10_Get.calls kj21 _ _ l0 (a1.extract ((ji28) : Int).toNat (x11_21 : Int).toNat) t112 _ ?side1 ?side2 A37.out).mono ?_); (case side1 => repeat (first | exact HR0.out | (with_reducible refine Kd.C_alloc ?_ _) | (with_reducible refine Kd.C_drewN ?_ _) | (with_reducible refine Kd.C_drew ?_))); (case side2 => exact HC0.out); rintro e w' ⟨rfl, ⟨nd, rfl⟩⟩; refine ⟨_, rfl, ?_⟩))
                                          go_meet
                                          case rel => exact ⟨_, (wrap64 (x11_21 + 1)), (t112), (by first | rfl | (simp; done) | (simp [*]; done)), (by first | rfl | (simp; done) | (simp [*]; done)), H', ⟨by have := HK1.out; have := HJ12.out; have := HJ21.out; first | omega | exact Nat.le_refl _⟩, by repeat (first | exact Drawn0.refl _ | apply Drawn0.step)⟩
                                        · replace c33 := Bool.eq_false_iff.mpr c33
                                          subst c33
                                          have H1 : (some ((⟨#[]⟩ : ByteArray), 10)) = some (r1, r2) := by rw [if_neg (show ¬ (false = true) by decide)] at H; exact H
                                          clear H
                                          have H := H1
                                          clear H1
                                          simp only [Option.some.injEq, Prod.mk.injEq] at H
                                          obtain ⟨rfl, rfl⟩ := H
                                          go_wp2_with (first | (go_at_call 21; (with_reducible refine (bellowsref10_Name.calls kj21 (a1.extract ((ji28) : Int).toNat (x11_21 : Int).toNat) false _ A32.out).mono ?_); rintro e w' ⟨rfl, ⟨nd, rfl⟩⟩))
                                          go_ret2
                                          exact ⟨by first | rfl | (simp; done) | (simp only [← hji8, ← hji28] <;> (first | rfl | simp)) | (simp [*]; done), by repeat (first | exact Drawn0.refl _ | apply Drawn0.step)⟩
                                      · rw [if_neg c31] at H
                                        exact absurd H (by simp)
                                    · rw [if_neg c30] at H
                                      exact absurd H (by simp)
                                  · rw [if_neg c29] at H
                                    exact absurd H (by simp)
                          · rw [if_neg c21] at H
                            have c21b0 : ((bt a1 (ji8)) == 123) = false := beq_eq_false_iff_ne.mpr c21
                            have c21b1 : ((bt a1 (ji8)) != 123) = true := bne_iff_ne.mpr c21
                            replace H := Option.bind_eq_some_iff.mp H
                            obtain ⟨t113, A380, H⟩ := H
                            replace H : (if t113 = true then (bellowsref10_Expand.l2 kj12 l0 a1 x6_1 x7_1 ji8 ji8) else (some ((⟨#[]⟩ : ByteArray), 10))) = some (r1, r2) := H
                            have A38 := Aside0.mk A380
                            clear A380
                            by_cases c39 : t113 = true
                            · subst c39
                              have H1 : (bellowsref10_Expand.l2 kj12 l0 a1 x6_1 x7_1 ji8 ji8) = some (r1, r2) := by rw [if_pos rfl] at H; exact H
                              clear H
                              have H := H1
                              clear H1
                              have H' := Aside0.mk H
                              clear H
                              go_wp2_with (first | ((with_reducible refine gate_callee (f := 27) rfl ?_); refine goesL_ (some 101) rfl rfl Try.func27 (by kernel_rfl) rfl #[.int .u8 (bt a1 (ji8))] rfl (by (try simp only [List.map_toArray, List.map_cons, List.map_nil]); first | done | (simp only [hji8]; rfl) | rfl | (simp only [List.length_drop, List.length_take]; rfl)) ?_; (with_reducible refine (bellowsref10_short.calls (bt a1 (ji8)) true _ A38.out).mono ?_); rintro e w' ⟨rfl, ⟨nd, rfl⟩⟩; refine ⟨_, rfl, ?_⟩))
                              go_loopg [12] kj12 (fun kq v12 w' => ∃ (x12_3 : Int), v12 = .int .i64 x12_3 ∧ Aside0 (bellowsref10_Expand.l2 kq l0 a1 x6_1 x7_1 ji8 x12_3 = some (r1, r2)) ∧ Aside0 (kq ≤ kj12) ∧ Drawn0 w w')
                              case atStart => exact ⟨(ji8), (by first | rfl | (simp; done) | (simp only [← hji8] <;> (first | rfl | simp)) | (simp [*]; done)), H', ⟨Nat.le_refl _⟩, by repeat (first | exact Drawn0.refl _ | apply Drawn0.step)⟩
                              case round =>
                                clear H'
                                try clear c1
                                try clear p1
                                try clear q1
                                try clear hx1
                                try clear c2
                                try clear p2
                                try clear q2
                                try clear hx2
                                try clear c3
                                try clear c3b0
                                try clear c4
                                try clear c4b0
                                try clear p5
                                try clear q5
                                try clear hx5
                                try clear c6
                                try clear c6b0
                                try clear c6b1
                                try clear p6
                                try clear c7
                                try clear c7b0
                                try clear c7b1
                                try clear c9
                                try clear c9b0
                                try clear c10
                                try clear c10b0
                                try clear p11
                                try clear q11
                                try clear hx11
                                try clear c12
                                try clear c14
                                try clear c14b0
                                try clear c14b1
                                try clear c15
                                try clear c15b0
                                try clear c15b1
                                try clear c16
                                try clear c16b0
                                try clear c16b1
                                try clear c17
                                try clear c18
                                try clear c18b0
                                try clear c18b1
                                try clear c19
                                try clear c19b0
                                try clear c19b1
                                try clear c20
                                try clear c20b0
                                try clear c20b1
                                try clear c21
                                try clear c21b0
                                try clear c21b1
                                try clear c23
                                try clear c23b0
                                try clear c24
                                try clear c24b0
                                try clear p25
                                try clear q25
                                try clear hx25
                                try clear c26
                                try clear c26b0
                                try clear c26b1
                                try clear c27
                                try clear c27b0
                                try clear c27b1
                                try clear c29
                                try clear c29b0
                                try clear c29b1
                                try clear c30
                                try clear c30b0
                                try clear c30b1
                                try clear c31
                                try clear c31b0
                                try clear c31b1
                                try clear c33
                                try clear c34
                                try clear c34b0
                                try clear c35
                                try clear c35b0
                                try clear c36
                                try clear c36b0
                                try clear c39
                                try clear p1
                                try clear p11
                                try clear p2
                                try clear p25
                                try clear p5
                                try clear p6
                                try clear q1
                                try clear q11
                                try clear q2
                                try clear q25
                                try clear q5
                                obtain ⟨x12_3, rfl, HA, HK3, ⟨m3, rfl⟩⟩ := hrel
                                cases gk with
                                | zero => exact absurd HA.out (by simp [bellowsref10_Expand.l2])
                                | succ k3 =>
                                  have H := HA.out
                                  clear HA
                                  simp only [bellowsref10_Expand.l2] at H
                                  by_cases c40 : x12_3 < (a1.size : Int)
                                  · rw [if_pos c40] at H
                                    have c40b0 : decide (x12_3 < (a1.size : Int)) = true := decide_eq_true c40
                                    clear c40
                                    by_cases c41 : 0 ≤ x12_3
                                    · rw [if_pos c41] at H
                                      have c41b0 : decide (0 ≤ x12_3) = true := decide_eq_true c41
                                      clear c41
                                      replace H := Option.bind_eq_some_iff.mp H
                                      obtain ⟨t114, A430, H⟩ := H
                                      replace H : (if t114 = true then (bellowsref10_Expand.l2 k3 l0 a1 x6_1 x7_1 ji8 (wrap64 (x12_3 + 1))) else (if 0 ≤ ji8 then (if ji8 ≤ x12_3 then (if x12_3 ≤ (a1.size : Int) then ((bellowsref10_Get.f k3 l0 (a1.extract (ji8 : Int).toNat (x12_3 : Int).toNat)).bind fun t115 => (bellowsref10_Expand.j5 k3 l0 a1 x6_1 x7_1 x12_3 t115)) else (none)) else (none)) else (none))) = some (r1, r2) := H
                                      have A43 := Aside0.mk A430
                                      clear A430
                                      by_cases c44 : t114 = true
                                      · subst c44
                                        have H1 : (bellowsref10_Expand.l2 k3 l0 a1 x6_1 x7_1 ji8 (wrap64 (x12_3 + 1))) = some (r1, r2) := by rw [if_pos rfl] at H; exact H
                                        clear H
                                        have H := H1
                                        clear H1
                                        have H' := Aside0.mk H
                                        clear H
                                        have p42 : 0 ≤ (x12_3 : Int) := of_decide_eq_true (by first | (with_reducible assumption) | assumption)
                                        have q42 : x12_3 < (a1.size : Int) := of_decide_eq_true (by first | (with_reducible assumption) | assumption)
                                        have hx42 := bt_at a1 x12_3
                                        replace p42 := eq_true p42
                                        replace q42 := eq_true q42
                                        go_wp2_with (first | (go_at_call 27; (with_reducible refine (bellowsref10_short.calls (bt a1 x12_3) true _ A43.out).mono ?_); rintro e w' ⟨rfl, ⟨nd, rfl⟩⟩))
                                        go_roundg k3
                                        case measure => have := HK1.out; have := HJ12.out; have := HK3.out; omega
                                        case rel => exact ⟨(wrap64 (x12_3 + 1)), (by first | rfl | (simp; done) | (simp [*]; done)), H', ⟨by have := HK1.out; have := HJ12.out; have := HK3.out; omega⟩, by repeat (first | exact Drawn0.refl _ | apply Drawn0.step)⟩
                                      · replace c44 := Bool.eq_false_iff.mpr c44
                                        subst c44
                                        have H1 : (if 0 ≤ ji8 then (if ji8 ≤ x12_3 then (if x12_3 ≤ (a1.size : Int) then ((bellowsref10_Get.f k3 l0 (a1.extract (ji8 : Int).toNat (x12_3 : Int).toNat)).bind fun t115 => (bellowsref10_Expand.j5 k3 l0 a1 x6_1 x7_1 x12_3 t115)) else (none)) else (none)) else (none)) = some (r1, r2) := by rw [if_neg (show ¬ (false = true) by decide)] at H; exact H
                                        clear H
                                        have H := H1
                                        clear H1
                                        by_cases c45 : 0 ≤ ji8
                                        · rw [if_pos c45] at H
                                          have c45b0 := eq_true c45
                                          have c45b1 : decide (0 ≤ ji8) = true := decide_eq_true c45
                                          clear c45
                                          by_cases c46 : ji8 ≤ x12_3
                                          · rw [if_pos c46] at H
                                            have c46b0 := eq_true c46
                                            have c46b1 : decide (ji8 ≤ x12_3) = true := decide_eq_true c46
                                            clear c46
                                            by_cases c47 : x12_3 ≤ (a1.size : Int)
                                            · rw [if_pos c47] at H
                                              have c47b0 := eq_true c47
                                              have c47b1 : decide (x12_3 ≤ (a1.size : Int)) = true := decide_eq_true c47
                                              clear c47
                                              replace H := Option.bind_eq_some_iff.mp H
                                              obtain ⟨t115, A480, H⟩ := H
                                              replace H : (bellowsref10_Expand.j5 k3 l0 a1 x6_1 x7_1 x12_3 t115) = some (r1, r2) := H
                                              have A48 := Aside0.mk A480
                                              clear A480
                                              have H' := Aside0.mk H
                                              clear H
                                              have p42 : 0 ≤ (x12_3 : Int) := of_decide_eq_true (by first | (with_reducible assumption) | assumption)
                                              have q42 : x12_3 < (a1.size : Int) := of_decide_eq_true (by first | (with_reducible assumption) | assumption)
                                              have hx42 := bt_at a1 x12_3
                                              replace p42 := eq_true p42
                                              replace q42 := eq_true q42
                                              go_wp2_with (first | (go_at_call 27; (with_reducible refine (bellowsref10_short.calls (bt a1 x12_3) false _ A43.out).mono ?_); rintro e w' ⟨rfl, ⟨nd, rfl⟩⟩) | ((with_reducible refine gate_callee (f := 14) rfl ?_); refine goesL_ (some 120) rfl rfl Try.func14 (by kernel_rfl) rfl #[.slice A0 l0.length c0, .string (a1.extract (ji8 : Int).toNat (x12_3 : Int).toNat)] rfl (by (try simp only [List.map_toArray, List.map_cons, List.map_nil]); first | done | (simp only [hji8]; rfl) | rfl | (simp only [List.length_drop, List.length_take]; rfl)) ?_; (with_reducible refine (bellowsref10_Get.calls k3 _ _ l0 (a1.extract (ji8 : Int).toNat (x12_3 : Int).toNat) t115 _ ?side1 ?side2 A48.out).mono ?_); (case side1 => repeat (first | exact HR0.out | (with_reducible refine Kd.C_alloc ?_ _) | (with_reducible refine Kd.C_drewN ?_ _) | (with_reducible refine Kd.C_drew ?_))); (case side2 => exact HC0.out); rintro e w' ⟨rfl, ⟨nd, rfl⟩⟩; refine ⟨_, rfl, ?_⟩))
                                              go_meet
                                              case rel => exact ⟨_, (x12_3), (t115), (by first | rfl | (simp; done) | (simp [*]; done)), (by first | rfl | (simp; done) | (simp [*]; done)), H', ⟨by have := HK1.out; have := HJ12.out; have := HK3.out; first | omega | exact Nat.le_refl _⟩, by repeat (first | exact Drawn0.refl _ | apply Drawn0.step)⟩
                                            · rw [if_neg c47] at H
                                              exact absurd H (by simp)
                                          · rw [if_neg c46] at H
                                            exact absurd H (by simp)
                                        · rw [if_neg c45] at H
                                          exact absurd H (by simp)
                                    · rw [if_neg c41] at H
                                      exact absurd H (by simp)
                                  · rw [if_neg c40] at H
                                    have c40b0 : decide (x12_3 < (a1.size : Int)) = false := decide_eq_false c40
                                    clear c40
                                    by_cases c49 : 0 ≤ ji8
                                    · rw [if_pos c49] at H
                                      have c49b0 := eq_true c49
                                      have c49b1 : decide (0 ≤ ji8) = true := decide_eq_true c49
                                      clear c49
                                      by_cases c50 : ji8 ≤ x12_3
                                      · rw [if_pos c50] at H
                                        have c50b0 := eq_true c50
                                        have c50b1 : decide (ji8 ≤ x12_3) = true := decide_eq_true c50
                                        clear c50
                                        by_cases c51 : x12_3 ≤ (a1.size : Int)
                                        · rw [if_pos c51] at H
                                          have c51b0 := eq_true c51
                                          have c51b1 : decide (x12_3 ≤ (a1.size : Int)) = true := decide_eq_true c51
                                          clear c51
                                          replace H := Option.bind_eq_some_iff.mp H
                                          obtain ⟨t116, A520, H⟩ := H
                                          replace H : (bellowsref10_Expand.j5 k3 l0 a1 x6_1 x7_1 x12_3 t116) = some (r1, r2) := H
                                          have A52 := Aside0.mk A520
                                          clear A520
                                          have H' := Aside0.mk H
                                          clear H
                                          go_wp2_with (first | ((with_reducible refine gate_callee (f := 14) rfl ?_); refine goesL_ (some 120) rfl rfl Try.func14 (by kernel_rfl) rfl #[.slice A0 l0.length c0, .string (a1.extract (ji8 : Int).toNat (x12_3 : Int).toNat)] rfl (by (try simp only [List.map_toArray, List.map_cons, List.map_nil]); first | done | (simp only [hji8]; rfl) | rfl | (simp only [List.length_drop, List.length_take]; rfl)) ?_; (with_reducible refine (bellowsref10_Get.calls k3 _ _ l0 (a1.extract (ji8 : Int).toNat (x12_3 : Int).toNat) t116 _ ?side1 ?side2 A52.out).mono ?_); (case side1 => repeat (first | exact HR0.out | (with_reducible refine Kd.C_alloc ?_ _) | (with_reducible refine Kd.C_drewN ?_ _) | (with_reducible refine Kd.C_drew ?_))); (case side2 => exact HC0.out); rintro e w' ⟨rfl, ⟨nd, rfl⟩⟩; refine ⟨_, rfl, ?_⟩))
                                          go_meet
                                          case rel => exact ⟨_, (x12_3), (t116), (by first | rfl | (simp; done) | (simp [*]; done)), (by first | rfl | (simp; done) | (simp [*]; done)), H', ⟨by have := HK1.out; have := HJ12.out; have := HK3.out; first | omega | exact Nat.le_refl _⟩, by repeat (first | exact Drawn0.refl _ | apply Drawn0.step)⟩
                                        · rw [if_neg c51] at H
                                          exact absurd H (by simp)
                                      · rw [if_neg c50] at H
                                        exact absurd H (by simp)
                                    · rw [if_neg c49] at H
                                      exact absurd H (by simp)
                            · replace c39 := Bool.eq_false_iff.mpr c39
                              subst c39
                              have H1 : (some ((⟨#[]⟩ : ByteArray), 10)) = some (r1, r2) := by rw [if_neg (show ¬ (false = true) by decide)] at H; exact H
                              clear H
                              have H := H1
                              clear H1
                              simp only [Option.some.injEq, Prod.mk.injEq] at H
                              obtain ⟨rfl, rfl⟩ := H
                              go_wp2_with (first | ((with_reducible refine gate_callee (f := 27) rfl ?_); refine goesL_ (some 101) rfl rfl Try.func27 (by kernel_rfl) rfl #[.int .u8 (bt a1 (ji8))] rfl (by (try simp only [List.map_toArray, List.map_cons, List.map_nil]); first | done | (simp only [hji8]; rfl) | rfl | (simp only [List.length_drop, List.length_take]; rfl)) ?_; (with_reducible refine (bellowsref10_short.calls (bt a1 (ji8)) false _ A38.out).mono ?_); rintro e w' ⟨rfl, ⟨nd, rfl⟩⟩; refine ⟨_, rfl, ?_⟩))
                              go_ret2
                              exact ⟨by first | rfl | (simp; done) | (simp only [← hji8] <;> (first | rfl | simp)) | (simp [*]; done), by repeat (first | exact Drawn0.refl _ | apply Drawn0.step)⟩
                  case rest =>
                    clear HC12
                    try clear c1
                    try clear p1
                    try clear q1
                    try clear hx1
                    try clear c2
                    try clear p2
                    try clear q2
                    try clear hx2
                    try clear c3
                    try clear c3b0
                    try clear c4
                    try clear c4b0
                    try clear p4
                    try clear q4
                    try clear hx4
                    try clear c5
                    try clear p5
                    try clear q5
                    try clear hx5
                    try clear c6
                    try clear c6b0
                    try clear c6b1
                    try clear p6
                    try clear c7
                    try clear c7b0
                    try clear c7b1
                    try clear c9
                    try clear c9b0
                    try clear c10
                    try clear c10b0
                    try clear p11
                    try clear q11
                    try clear hx11
                    try clear c12
                    try clear c14
                    try clear c14b0
                    try clear c14b1
                    try clear c15
                    try clear c15b0
                    try clear c15b1
                    try clear c16
                    try clear c16b0
                    try clear c16b1
                    try clear c17
                    try clear c18
                    try clear c18b0
                    try clear c18b1
                    try clear c19
                    try clear c19b0
                    try clear c19b1
                    try clear c20
                    try clear c20b0
                    try clear c20b1
                    try clear c21
                    try clear c21b0
                    try clear c21b1
                    try clear c23
                    try clear c23b0
                    try clear c24
                    try clear c24b0
                    try clear p25
                    try clear q25
                    try clear hx25
                    try clear c26
                    try clear c26b0
                    try clear c26b1
                    try clear c27
                    try clear c27b0
                    try clear c27b1
                    try clear c29
                    try clear c29b0
                    try clear c29b1
                    try clear c30
                    try clear c30b0
                    try clear c30b1
                    try clear c31
                    try clear c31b0
                    try clear c31b1
                    try clear c33
                    try clear c34
                    try clear c34b0
                    try clear c35
                    try clear c35b0
                    try clear c36
                    try clear c36b0
                    try clear c39
                    try clear c40
                    try clear c40b0
                    try clear c41
                    try clear c41b0
                    try clear p42
                    try clear q42
                    try clear hx42
                    try clear c44
                    try clear c45
                    try clear c45b0
                    try clear c45b1
                    try clear c46
                    try clear c46b0
                    try clear c46b1
                    try clear c47
                    try clear c47b0
                    try clear c47b1
                    try clear c49
                    try clear c49b0
                    try clear c49b1
                    try clear c50
                    try clear c50b0
                    try clear c50b1
                    try clear c51
                    try clear c51b0
                    try clear c51b1
                    try clear p1
                    try clear p11
                    try clear p2
                    try clear p25
                    try clear p42
                    try clear p5
                    try clear p6
                    try clear q1
                    try clear q11
                    try clear q2
                    try clear q25
                    try clear q42
                    try clear q5
                    obtain ⟨kq, x8_11, x9_11, rfl, rfl, HA, HJ11, ⟨mc11, rfl⟩⟩ := hcut
                    cases kq with
                    | zero => exact absurd HA.out (by simp [bellowsref10_Expand.j5])
                    | succ kj11 =>
                      have H := HA.out
                      clear HA
                      simp only [bellowsref10_Expand.j5] at H
                      by_cases c53 : (wrap64 ((x6_1.size : Int) + (x9_11.size : Int))) > 16384
                      · rw [if_pos c53] at H
                        have c53b0 : decide (16384 < (wrap64 ((x6_1.size : Int) + (x9_11.size : Int)))) = true := decide_eq_true c53
                        clear c53
                        have H' := Aside0.mk H
                        clear H
                        go_wp2
                        go_roundg kj11
                        case measure => have := HK1.out; have := HJ11.out; omega
                        case rel => exact ⟨(x6_1), (true), (x8_11), (by first | rfl | (simp; done) | (simp [*]; done)), (by first | rfl | (simp; done) | (simp [*]; done)), (by first | rfl | (simp; done) | (simp [*]; done)), H', ⟨by have := HK1.out; have := HJ11.out; omega⟩, by repeat (first | exact Drawn0.refl _ | apply Drawn0.step)⟩
                      · rw [if_neg c53] at H
                        have c53b0 : decide (16384 < (wrap64 ((x6_1.size : Int) + (x9_11.size : Int)))) = false := decide_eq_false c53
                        clear c53
                        by_cases c54 : x7_1 = true
                        · subst c54
                          have H1 : (bellowsref10_Expand.l0 kj11 l0 a1 x6_1 true x8_11) = some (r1, r2) := by rw [if_pos rfl] at H; exact H
                          clear H
                          have H := H1
                          clear H1
                          have H' := Aside0.mk H
                          clear H
                          go_wp2
                          go_roundg kj11
                          case measure => have := HK1.out; have := HJ11.out; omega
                          case rel => exact ⟨(x6_1), (true), (x8_11), (by first | rfl | (simp; done) | (simp [*]; done)), (by first | rfl | (simp; done) | (simp [*]; done)), (by first | rfl | (simp; done) | (simp [*]; done)), H', ⟨by have := HK1.out; have := HJ11.out; omega⟩, by repeat (first | exact Drawn0.refl _ | apply Drawn0.step)⟩
                        · replace c54 := Bool.eq_false_iff.mpr c54
                          subst c54
                          have H1 : (if x6_1.size + x9_11.size ≤ 9223372036854775807 then (bellowsref10_Expand.l0 kj11 l0 a1 (x6_1 ++ x9_11) false x8_11) else (none)) = some (r1, r2) := by rw [if_neg (show ¬ (false = true) by decide)] at H; exact H
                          clear H
                          have H := H1
                          clear H1
                          by_cases c55 : x6_1.size + x9_11.size ≤ 9223372036854775807
                          · rw [if_pos c55] at H
                            have c55b0 := eq_true c55
                            have c55b1 : decide (x6_1.size + x9_11.size ≤ 9223372036854775807) = true := decide_eq_true c55
                            try have c55b2 : (9223372036854775807 < x6_1.size + x9_11.size) = False := eq_false (Nat.not_lt.2 c55)
                            have c55w : wrap64 ((x6_1.size : Int) + (x9_11.size : Int)) = (x6_1.size : Int) + (x9_11.size : Int) := wrap_two_YtlpjhpdgjeiioaaPBellowsref10Expand0 _ _ c55
                            try rw [c55w] at c53b0
                            try rw [c55w] at c53b0
                            clear c55w
                            have H' := Aside0.mk H
                            clear H
                            go_wp2
                            go_roundg kj11
                            case measure => have := HK1.out; have := HJ11.out; omega
                            case rel => exact ⟨(x6_1 ++ x9_11), (false), (x8_11), (by first | rfl | (simp; done) | (simp [*]; done)), (by first | rfl | (simp; done) | (simp [*]; done)), (by first | rfl | (simp; done) | (simp [*]; done)), H', ⟨by have := HK1.out; have := HJ11.out; omega⟩, by repeat (first | exact Drawn0.refl _ | apply Drawn0.step)⟩
                          · rw [if_neg c55] at H
                            exact absurd H (by simp)
                · rw [if_neg c10] at H
                  exact absurd H (by simp)
              · rw [if_neg c9] at H
                exact absurd H (by simp)
          · rw [if_neg c6] at H
            have c6b0 : ((bt a1 x8_1) == 36) = false := beq_eq_false_iff_ne.mpr c6
            have c6b1 : ((bt a1 x8_1) != 36) = true := bne_iff_ne.mpr c6
            have c56b0 := eq_true (of_decide_eq_true (by first | (with_reducible assumption) | assumption) : 0 ≤ x8_1)
            by_cases c57 : x8_1 ≤ (wrap64 (x8_1 + 1))
            · rw [if_pos c57] at H
              have c57b0 := eq_true c57
              have c57b1 : decide (x8_1 ≤ (wrap64 (x8_1 + 1))) = true := decide_eq_true c57
              by_cases c58 : (wrap64 (x8_1 + 1)) ≤ (a1.size : Int)
              · rw [if_pos c58] at H
                have c58b0 := eq_true c58
                have c58b1 : decide ((wrap64 (x8_1 + 1)) ≤ (a1.size : Int)) = true := decide_eq_true c58
                by_cases c59 : x6_1.size + (a1.extract (x8_1 : Int).toNat ((wrap64 (x8_1 + 1)) : Int).toNat).size ≤ 9223372036854775807
                · rw [if_pos c59] at H
                  have c59b0 := eq_true c59
                  have c59b1 : decide (x6_1.size + (a1.extract (x8_1 : Int).toNat ((wrap64 (x8_1 + 1)) : Int).toNat).size ≤ 9223372036854775807) = true := decide_eq_true c59
                  try have c59b2 : (9223372036854775807 < x6_1.size + (a1.extract (x8_1 : Int).toNat ((wrap64 (x8_1 + 1)) : Int).toNat).size) = False := eq_false (Nat.not_lt.2 c59)
                  have H' := Aside0.mk H
                  clear H
                  have p5 : 0 ≤ (x8_1 : Int) := of_decide_eq_true (by first | (with_reducible assumption) | assumption)
                  have q5 : x8_1 < (a1.size : Int) := of_decide_eq_true (by first | (with_reducible assumption) | assumption)
                  have hx5 := bt_at a1 x8_1
                  replace p5 := eq_true p5
                  replace q5 := eq_true q5
                  go_wp2
                  go_roundg k1
                  case measure => have := HK1.out; omega
                  case rel => exact ⟨(x6_1 ++ (a1.extract (x8_1 : Int).toNat ((wrap64 (x8_1 + 1)) : Int).toNat)), (x7_1), (wrap64 (x8_1 + 1)), (by first | rfl | (simp; done) | (simp [*]; done)), (by first | rfl | (simp; done) | (simp [*]; done)), (by first | rfl | (simp; done) | (simp [*]; done)), H', ⟨by have := HK1.out; omega⟩, by repeat (first | exact Drawn0.refl _ | apply Drawn0.step)⟩
                · rw [if_neg c59] at H
                  exact absurd H (by simp)
              · rw [if_neg c58] at H
                exact absurd H (by simp)
            · rw [if_neg c57] at H
              exact absurd H (by simp)
        · rw [if_neg c4] at H
          exact absurd H (by simp)
      · rw [if_neg c3] at H
        have c3b0 : decide (x8_1 < (a1.size : Int)) = false := decide_eq_false c3
        clear c3
        by_cases c60 : x7_1 = true
        · subst c60
          have H1 : (some ((⟨#[]⟩ : ByteArray), 3)) = some (r1, r2) := by rw [if_pos rfl] at H; exact H
          clear H
          have H := H1
          clear H1
          simp only [Option.some.injEq, Prod.mk.injEq] at H
          obtain ⟨rfl, rfl⟩ := H
          go_wp2
          go_ret2
          exact ⟨by first | rfl | (simp; done) | (simp [*]; done), by repeat (first | exact Drawn0.refl _ | apply Drawn0.step)⟩
        · replace c60 := Bool.eq_false_iff.mpr c60
          subst c60
          have H1 : (if (x6_1.size : Int) > 16384 then (some ((⟨#[]⟩ : ByteArray), 3)) else (some (x6_1, 0))) = some (r1, r2) := by rw [if_neg (show ¬ (false = true) by decide)] at H; exact H
          clear H
          have H := H1
          clear H1
          by_cases c61 : (x6_1.size : Int) > 16384
          · rw [if_pos c61] at H
            have c61b0 : decide (16384 < (x6_1.size : Int)) = true := decide_eq_true c61
            have c61b1 : decide (16384 < x6_1.size) = true := decide_eq_true (by omega)
            clear c61
            simp only [Option.some.injEq, Prod.mk.injEq] at H
            obtain ⟨rfl, rfl⟩ := H
            go_wp2
            go_ret2
            exact ⟨by first | rfl | (simp; done) | (simp [*]; done), by repeat (first | exact Drawn0.refl _ | apply Drawn0.step)⟩
          · rw [if_neg c61] at H
            have c61b0 : decide (16384 < (x6_1.size : Int)) = false := decide_eq_false c61
            have c61b1 : decide (16384 < x6_1.size) = false := decide_eq_false (by omega)
            clear c61
            simp only [Option.some.injEq, Prod.mk.injEq] at H
            obtain ⟨rfl, rfl⟩ := H
            go_wp2
            go_ret2
            exact ⟨by first | rfl | (simp; done) | (simp [*]; done), by repeat (first | exact Drawn0.refl _ | apply Drawn0.step)⟩

end Go.Proofs.Ytlpjhpdgjeiioaa.P
