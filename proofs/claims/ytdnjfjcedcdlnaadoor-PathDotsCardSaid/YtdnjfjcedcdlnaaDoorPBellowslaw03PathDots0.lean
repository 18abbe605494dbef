-- printed by wip/tools/pr.py, a program of this session's, with the kit's print.py
import Derived.Test.YtdnjfjcedcdlnaaDoorP0
import Derived.Test.YtdnjfjcedcdlnaaDoorClean
import Derived.Test.YtdnjfjcedcdlnaaDoorPBellowslaw03Awake0
namespace Go.Proofs.YtdnjfjcedcdlnaaDoor.P
open Go.RowKit Go.Proofs.YtdnjfjcedcdlnaaDoorW.PrintWords Go.Proofs.YtdnjfjcedcdlnaaDoorW.PrintLast Go.Proofs.YtdnjfjcedcdlnaaDoorW.PrintMore
attribute [local go_sem] max2_int min2_int max_two min_two max_three min_three max_four min_four
set_option linter.unusedVariables false
set_option linter.unusedSimpArgs false

/-! ### bellowslaw03_PathDots: function 3 -/
def bellowslaw03_PathDots.l0 : Nat → Int → ByteArray → ByteArray → Int → Option (Bool)
  | 0, _, _, _, _ => none
  | k + 1, x1, x5, x7, x8 => if x8 < (x5.size : Int) then (if 0 ≤ x8 then (if x8 ≤ (wrap64 (x8 + 1)) then (if (wrap64 (x8 + 1)) ≤ (x5.size : Int) then (if x7.size + (x5.extract (x8 : Int).toNat ((wrap64 (x8 + 1)) : Int).toNat).size ≤ 9223372036854775807 then (if (bt x5 x8) = 47 then (if (Int.tmod (wrap64 (x1)) 3) > 0 then (if (x7 ++ (x5.extract (x8 : Int).toNat ((wrap64 (x8 + 1)) : Int).toNat)).size + 8 ≤ 9223372036854775807 then (bellowslaw03_PathDots.l0 k x1 x5 ((x7 ++ (x5.extract (x8 : Int).toNat ((wrap64 (x8 + 1)) : Int).toNat)) ++ (⟨#[47, 46, 47, 121, 47, 46, 46, 47]⟩ : ByteArray)) (wrap64 (x8 + 1))) else (none)) else (bellowslaw03_PathDots.l0 k x1 x5 (x7 ++ (x5.extract (x8 : Int).toNat ((wrap64 (x8 + 1)) : Int).toNat)) (wrap64 (x8 + 1)))) else (bellowslaw03_PathDots.l0 k x1 x5 (x7 ++ (x5.extract (x8 : Int).toNat ((wrap64 (x8 + 1)) : Int).toNat)) (wrap64 (x8 + 1)))) else (none)) else (none)) else (none)) else (none)) else (if x7.size + 3 ≤ 9223372036854775807 then ((path_Clean.f (x7 ++ (⟨#[47, 47, 46]⟩ : ByteArray))).bind fun bt110 => (if bt110.2 = 0 then (if bt110.1.toList = x5.toList then ((bellowslaw03_awake.f).bind fun t112 => (some t112)) else (if bt110.2 = 3 then (if (x7.size : Int) > 990 then ((bellowslaw03_awake.f).bind fun t113 => (some t113)) else (some false)) else (some false))) else (if bt110.2 = 3 then (if (x7.size : Int) > 990 then ((bellowslaw03_awake.f).bind fun t114 => (some t114)) else (some false)) else (some false)))) else (none))
def bellowslaw03_PathDots.f (k : Nat) (a0 : ByteArray) (a1 : Int) : Option (Bool) := if (a0.size : Int) > 300 then (some true) else ((path_Clean.f a0).bind fun bt107 => (if bt107.2 = 0 then (bellowslaw03_PathDots.l0 k a1 bt107.1 (⟨#[46, 47, 120, 47, 46, 46, 47, 46, 47]⟩ : ByteArray) 0) else ((bellowslaw03_awake.f).bind fun t109 => (some t109))))
theorem bellowslaw03_PathDots.mono_l : ∀ k, (∀ y0 y1 y2 y3, LeO (bellowslaw03_PathDots.l0 k y0 y1 y2 y3) (bellowslaw03_PathDots.l0 (k + 1) y0 y1 y2 y3))
  | 0 => fun _ _ _ _ r h => by simp [bellowslaw03_PathDots.l0] at h
  | k + 1 => by
    have ih0 := bellowslaw03_PathDots.mono_l k
    · intro y0 y1 y2 y3
      unfold bellowslaw03_PathDots.l0
      repeat' first
      | (with_reducible exact ih0 _ _ _ _)
      | (with_reducible exact LeO.refl _)
      | (with_reducible exact LeO.none _)
      | (with_reducible refine LeO.ite ?_ ?_)
      | (with_reducible refine LeO.bind ?_ (fun _ => ?_))
      | exact ih0 _ _ _ _
      | exact LeO.none _
      | refine LeO.ite ?_ ?_
      | refine LeO.bind ?_ (fun _ => ?_)
theorem bellowslaw03_PathDots.mono : ∀ a0 a1 k, LeO (bellowslaw03_PathDots.f k a0 a1) (bellowslaw03_PathDots.f (k + 1) a0 a1) := by
  intro a0 a1 k
  have ih0 := bellowslaw03_PathDots.mono_l k
  unfold bellowslaw03_PathDots.f
  repeat' first
      | (with_reducible exact ih0 _ _ _ _)
      | (with_reducible exact LeO.refl _)
      | (with_reducible exact LeO.none _)
      | (with_reducible refine LeO.ite ?_ ?_)
      | (with_reducible refine LeO.bind ?_ (fun _ => ?_))
      | exact ih0 _ _ _ _
      | exact LeO.none _
      | refine LeO.ite ?_ ?_
      | refine LeO.bind ?_ (fun _ => ?_)
set_option maxHeartbeats 8000000 in
set_option maxRecDepth 100000 in
theorem bellowslaw03_PathDots.calls (k : Nat) (a0 : ByteArray) (a1 : Int) (r : Bool) (w : World) (h : bellowslaw03_PathDots.f k a0 a1 = some r) :
    Calls Tryd.prog 3 #[.string a0, .int .u8 a1] w fun e w' => e = .returned (.bool r) ∧ Below w.heap.size w w' := by
  have HB := Aside0.mk (Below.refl w.heap.size w)
  have H : (if (a0.size : Int) > 300 then (some true) else ((path_Clean.f a0).bind fun bt107 => (if bt107.2 = 0 then (bellowslaw03_PathDots.l0 k a1 bt107.1 (⟨#[46, 47, 120, 47, 46, 46, 47, 46, 47]⟩ : ByteArray) 0) else ((bellowslaw03_awake.f).bind fun t109 => (some t109))))) = some r := h
  clear h
  by_cases c3 : (a0.size : Int) > 300
  · rw [if_pos c3] at H
    have c3b0 : decide (300 < (a0.size : Int)) = true := decide_eq_true c3
    have c3b1 : decide (300 < a0.size) = true := decide_eq_true (by omega)
    clear c3
    obtain rfl := Option.some.inj H
    go_enter Tryd.func3, Tryd.ntmps3
    go_wp2
    go_ret
    exact ⟨by first | rfl | (simp [errW_none, errW_some] <;> rfl) | (simp [*, errW_none, errW_some] <;> rfl), by repeat (first | (with_reducible first | exact HB.out | apply below_alloc | apply pw_below_drewN | apply below_drew1) | exact HB.out)⟩
  · rw [if_neg c3] at H
    have c3b0 : decide (300 < (a0.size : Int)) = false := decide_eq_false c3
    have c3b1 : decide (300 < a0.size) = false := decide_eq_false (by omega)
    clear c3
    replace H := Option.bind_eq_some_iff.mp H
    obtain ⟨⟨t107, t108⟩, A40, H⟩ := H
    replace H : (if t108 = 0 then (bellowslaw03_PathDots.l0 k a1 t107 (⟨#[46, 47, 120, 47, 46, 46, 47, 46, 47]⟩ : ByteArray) 0) else ((bellowslaw03_awake.f).bind fun t109 => (some t109))) = some r := H
    have A4 := Aside0.mk A40
    clear A40
    by_cases c5 : t108 = 0
    · rw [if_pos c5] at H
      have c5b0 : (t108 == 0) = true := beq_iff_eq.mpr c5
      have c5b1 : (t108 != 0) = false := bne_eq_false_iff_eq.mpr c5
      clear c5
      have H' := Aside0.mk H
      clear H
      go_enter Tryd.func3, Tryd.ntmps3
      go_wp2_with (first | ((with_reducible refine gate_callee (f := 8) rfl ?_); refine goesL_ (some 16) rfl rfl Tryd.func8 (by kernel_rfl) rfl #[.string a0] rfl (by (try simp only [List.map_toArray, List.map_cons, List.map_nil]); first | done | rfl | (simp only [List.length_drop, List.length_take]; rfl)) ?_; (with_reducible refine (path_Clean.calls a0 t107 t108 _ A4.out).mono ?_); rintro e w6 ⟨rfl, hb⟩; refine ⟨_, rfl, ?_⟩; have n0_ := Aside0.mk (below_step (by repeat (first | (with_reducible first | exact HB.out | apply below_alloc | apply pw_below_drewN | apply below_drew1) | exact HB.out)) hb); clear HB; have HB := n0_; clear n0_; (try clear hb); (try clear hb2); (try clear hk); (try clear hi)))
      go_loopg [7, 8] k (fun kq v7 v8 w' => ∃ (x7_1 : ByteArray) (x8_1 : Int), v7 = .string x7_1 ∧ v8 = .int .i64 x8_1 ∧ Aside0 (bellowslaw03_PathDots.l0 kq a1 t107 x7_1 x8_1 = some r) ∧ Aside0 (kq ≤ k) ∧ Aside0 (Below w.heap.size w w'))
      case atStart => exact ⟨((⟨#[46, 47, 120, 47, 46, 46, 47, 46, 47]⟩ : ByteArray)), (0), (by first | rfl | (simp; done) | (simp [*]; done)), (by first | rfl | (simp; done) | (simp [*]; done)), H', ⟨Nat.le_refl _⟩, ⟨by repeat (first | (with_reducible first | exact HB.out | apply below_alloc | apply pw_below_drewN | apply below_drew1) | exact HB.out)⟩⟩
      case round =>
        clear H'
        try clear p2
        try clear c3
        try clear c3b0
        try clear c3b1
        try clear c5
        try clear c5b0
        try clear c5b1
        obtain ⟨x7_1, x8_1, rfl, rfl, HA, HK1, HB⟩ := hrel
        cases gk with
        | zero => exact absurd HA.out (by simp [bellowslaw03_PathDots.l0])
        | succ k1 =>
          have H := HA.out
          clear HA
          simp only [bellowslaw03_PathDots.l0] at H
          by_cases c7 : x8_1 < (t107.size : Int)
          · rw [if_pos c7] at H
            have c7b0 : decide (x8_1 < (t107.size : Int)) = true := decide_eq_true c7
            clear c7
            by_cases c8 : 0 ≤ x8_1
            · rw [if_pos c8] at H
              have c8b0 := eq_true c8
              have c8b1 : decide (0 ≤ x8_1) = true := decide_eq_true c8
              clear c8
              by_cases c9 : x8_1 ≤ (wrap64 (x8_1 + 1))
              · rw [if_pos c9] at H
                have c9b0 := eq_true c9
                have c9b1 : decide (x8_1 ≤ (wrap64 (x8_1 + 1))) = true := decide_eq_true c9
                by_cases c10 : (wrap64 (x8_1 + 1)) ≤ (t107.size : Int)
                · rw [if_pos c10] at H
                  have c10b0 := eq_true c10
                  have c10b1 : decide ((wrap64 (x8_1 + 1)) ≤ (t107.size : Int)) = true := decide_eq_true c10
                  by_cases c11 : x7_1.size + (t107.extract (x8_1 : Int).toNat ((wrap64 (x8_1 + 1)) : Int).toNat).size ≤ 9223372036854775807
                  · rw [if_pos c11] at H
                    have c11b0 := eq_true c11
                    have c11b1 : decide (x7_1.size + (t107.extract (x8_1 : Int).toNat ((wrap64 (x8_1 + 1)) : Int).toNat).size ≤ 9223372036854775807) = true := decide_eq_true c11
                    try have c11b2 : (9223372036854775807 < x7_1.size + (t107.extract (x8_1 : Int).toNat ((wrap64 (x8_1 + 1)) : Int).toNat).size) = False := eq_false (Nat.not_lt.2 c11)
                    by_cases c13 : (bt t107 x8_1) = 47
                    · rw [if_pos c13] at H
                      have c13b0 : ((bt t107 x8_1) == 47) = true := beq_iff_eq.mpr c13
                      have c13b1 : ((bt t107 x8_1) != 47) = false := bne_eq_false_iff_eq.mpr c13
                      clear c13
                      by_cases c14 : (Int.tmod (wrap64 (a1)) 3) > 0
                      · rw [if_pos c14] at H
                        have c14b0 : decide (0 < (Int.tmod (wrap64 (a1)) 3)) = true := decide_eq_true c14
                        clear c14
                        by_cases c15 : (x7_1 ++ (t107.extract (x8_1 : Int).toNat ((wrap64 (x8_1 + 1)) : Int).toNat)).size + 8 ≤ 9223372036854775807
                        · rw [if_pos c15] at H
                          have c15b0 := eq_true c15
                          have c15b1 : decide ((x7_1 ++ (t107.extract (x8_1 : Int).toNat ((wrap64 (x8_1 + 1)) : Int).toNat)).size + 8 ≤ 9223372036854775807) = true := decide_eq_true c15
                          try have c15b2 : (9223372036854775807 < (x7_1 ++ (t107.extract (x8_1 : Int).toNat ((wrap64 (x8_1 + 1)) : Int).toNat)).size + 8) = False := eq_false (Nat.not_lt.2 c15)
                          try have c15b7 : (9223372036854775799 < (x7_1 ++ (t107.extract (x8_1 : Int).toNat ((wrap64 (x8_1 + 1)) : Int).toNat)).size) = False := eq_false (by omega)
                          try have c15b8 : (9223372036854775807 < x7_1.size + (t107.extract (x8_1 : Int).toNat ((wrap64 (x8_1 + 1)) : Int).toNat).size + 8) = False := by simpa only [ByteArray.size_append] using c15b2
                          try have c15b9 : (9223372036854775799 < x7_1.size + (t107.extract (x8_1 : Int).toNat ((wrap64 (x8_1 + 1)) : Int).toNat).size) = False := eq_false (by have hh_ := c15; rw [ByteArray.size_append] at hh_; omega)
                          try have c15b6 : (9223372036854775807 < x7_1.size + ((wrap64 (x8_1 + 1)).toNat - x8_1.toNat) + 8) = False := eq_false (by have hh_ := c15; rw [ByteArray.size_append, ByteArray.size_extract] at hh_; omega)
                          have H' := Aside0.mk H
                          clear H
                          have p12 : 0 ≤ (x8_1 : Int) := of_decide_eq_true (by first | (with_reducible assumption) | assumption)
                          have q12 : x8_1 < (t107.size : Int) := of_decide_eq_true (by first | (with_reducible assumption) | assumption)
                          have hx12 := bt_at t107 x8_1
                          replace p12 := eq_true p12
                          replace q12 := eq_true q12
                          go_wp2
                          go_roundg k1
                          case measure => have := HK1.out; omega
                          case rel => exact ⟨((x7_1 ++ (t107.extract (x8_1 : Int).toNat ((wrap64 (x8_1 + 1)) : Int).toNat)) ++ (⟨#[47, 46, 47, 121, 47, 46, 46, 47]⟩ : ByteArray)), (wrap64 (x8_1 + 1)), (by first | rfl | (simp; done) | (simp [*]; done)), (by first | rfl | (simp; done) | (simp [*]; done)), H', ⟨by have := HK1.out; omega⟩, ⟨by repeat (first | (with_reducible first | exact HB.out | apply below_alloc | apply pw_below_drewN | apply below_drew1) | exact HB.out)⟩⟩
                        · rw [if_neg c15] at H
                          exact absurd H (by simp)
                      · rw [if_neg c14] at H
                        have c14b0 : decide (0 < (Int.tmod (wrap64 (a1)) 3)) = false := decide_eq_false c14
                        clear c14
                        have H' := Aside0.mk H
                        clear H
                        have p12 : 0 ≤ (x8_1 : Int) := of_decide_eq_true (by first | (with_reducible assumption) | assumption)
                        have q12 : x8_1 < (t107.size : Int) := of_decide_eq_true (by first | (with_reducible assumption) | assumption)
                        have hx12 := bt_at t107 x8_1
                        replace p12 := eq_true p12
                        replace q12 := eq_true q12
                        go_wp2
                        go_roundg k1
                        case measure => have := HK1.out; omega
                        case rel => exact ⟨(x7_1 ++ (t107.extract (x8_1 : Int).toNat ((wrap64 (x8_1 + 1)) : Int).toNat)), (wrap64 (x8_1 + 1)), (by first | rfl | (simp; done) | (simp [*]; done)), (by first | rfl | (simp; done) | (simp [*]; done)), H', ⟨by have := HK1.out; omega⟩, ⟨by repeat (first | (with_reducible first | exact HB.out | apply below_alloc | apply pw_below_drewN | apply below_drew1) | exact HB.out)⟩⟩
                    · rw [if_neg c13] at H
                      have c13b0 : ((bt t107 x8_1) == 47) = false := beq_eq_false_iff_ne.mpr c13
                      have c13b1 : ((bt t107 x8_1) != 47) = true := bne_iff_ne.mpr c13
                      have H' := Aside0.mk H
                      clear H
                      have p12 : 0 ≤ (x8_1 : Int) := of_decide_eq_true (by first | (with_reducible assumption) | assumption)
                      have q12 : x8_1 < (t107.size : Int) := of_decide_eq_true (by first | (with_reducible assumption) | assumption)
                      have hx12 := bt_at t107 x8_1
                      replace p12 := eq_true p12
                      replace q12 := eq_true q12
                      go_wp2
                      go_roundg k1
                      case measure => have := HK1.out; omega
                      case rel => exact ⟨(x7_1 ++ (t107.extract (x8_1 : Int).toNat ((wrap64 (x8_1 + 1)) : Int).toNat)), (wrap64 (x8_1 + 1)), (by first | rfl | (simp; done) | (simp [*]; done)), (by first | rfl | (simp; done) | (simp [*]; done)), H', ⟨by have := HK1.out; omega⟩, ⟨by repeat (first | (with_reducible first | exact HB.out | apply below_alloc | apply pw_below_drewN | apply below_drew1) | exact HB.out)⟩⟩
                  · rw [if_neg c11] at H
                    exact absurd H (by simp)
                · rw [if_neg c10] at H
                  exact absurd H (by simp)
              · rw [if_neg c9] at H
                exact absurd H (by simp)
            · rw [if_neg c8] at H
              exact absurd H (by simp)
          · rw [if_neg c7] at H
            have c7b0 : decide (x8_1 < (t107.size : Int)) = false := decide_eq_false c7
            clear c7
            by_cases c16 : x7_1.size + 3 ≤ 9223372036854775807
            · rw [if_pos c16] at H
              have c16b0 := eq_true c16
              have c16b1 : decide (x7_1.size + 3 ≤ 9223372036854775807) = true := decide_eq_true c16
              try have c16b2 : (9223372036854775807 < x7_1.size + 3) = False := eq_false (Nat.not_lt.2 c16)
              try have c16b7 : (9223372036854775804 < x7_1.size) = False := eq_false (by omega)
              replace H := Option.bind_eq_some_iff.mp H
              obtain ⟨⟨t110, t111⟩, A170, H⟩ := H
              replace H : (if t111 = 0 then (if t110.toList = t107.toList then ((bellowslaw03_awake.f).bind fun t112 => (some t112)) else (if t111 = 3 then (if (x7_1.size : Int) > 990 then ((bellowslaw03_awake.f).bind fun t113 => (some t113)) else (some false)) else (some false))) else (if t111 = 3 then (if (x7_1.size : Int) > 990 then ((bellowslaw03_awake.f).bind fun t114 => (some t114)) else (some false)) else (some false))) = some r := H
              have A17 := Aside0.mk A170
              clear A170
              by_cases c18 : t111 = 0
              · rw [if_pos c18] at H
                have c18b0 : (t111 == 0) = true := beq_iff_eq.mpr c18
                have c18b1 : (t111 != 0) = false := bne_eq_false_iff_eq.mpr c18
                clear c18
                by_cases c19 : t110.toList = t107.toList
                · rw [if_pos c19] at H
                  have c19b0 : (t110.toList == t107.toList) = true := beq_iff_eq.mpr c19
                  have c19b1 : (t110.toList != t107.toList) = false := bne_eq_false_iff_eq.mpr c19
                  clear c19
                  replace H := Option.bind_eq_some_iff.mp H
                  obtain ⟨t112, A200, H⟩ := H
                  replace H : (some t112) = some r := H
                  have A20 := Aside0.mk A200
                  clear A200
                  obtain rfl := Option.some.inj H
                  go_wp2_with (first | ((with_reducible refine gate_callee (f := 8) rfl ?_); refine goesL_ (some 50) rfl rfl Tryd.func8 (by kernel_rfl) rfl #[.string (x7_1 ++ (⟨#[47, 47, 46]⟩ : ByteArray))] rfl (by (try simp only [List.map_toArray, List.map_cons, List.map_nil]); first | done | rfl | (simp only [List.length_drop, List.length_take]; rfl)) ?_; (with_reducible refine (path_Clean.calls (x7_1 ++ (⟨#[47, 47, 46]⟩ : ByteArray)) t110 t111 _ A17.out).mono ?_); rintro e w21 ⟨rfl, hb⟩; refine ⟨_, rfl, ?_⟩; have n0_ := Aside0.mk (below_step (by repeat (first | (with_reducible first | exact HB.out | apply below_alloc | apply pw_below_drewN | apply below_drew1) | exact HB.out)) hb); clear HB; have HB := n0_; clear n0_; (try clear hb); (try clear hb2); (try clear hk); (try clear hi)) | (go_at_call 9; (with_reducible refine (bellowslaw03_awake.calls  t112 _ A20.out).mono ?_); rintro e w22 ⟨rfl, hb⟩; have n0_ := Aside0.mk (below_step (by repeat (first | (with_reducible first | exact HB.out | apply below_alloc | apply pw_below_drewN | apply below_drew1) | exact HB.out)) hb); clear HB; have HB := n0_; clear n0_; (try clear hb); (try clear hb2); (try clear hk); (try clear hi)))
                  go_ret
                  exact ⟨by first | rfl | (simp [errW_none, errW_some] <;> rfl) | (simp [*, errW_none, errW_some] <;> rfl), by repeat (first | (with_reducible first | exact HB.out | apply below_alloc | apply pw_below_drewN | apply below_drew1) | exact HB.out)⟩
                · rw [if_neg c19] at H
                  have c19b0 : (t110.toList == t107.toList) = false := beq_eq_false_iff_ne.mpr c19
                  have c19b1 : (t110.toList != t107.toList) = true := bne_iff_ne.mpr c19
                  by_cases c23 : t111 = 3
                  · rw [if_pos c23] at H
                    have c23b0 : (t111 == 3) = true := beq_iff_eq.mpr c23
                    have c23b1 : (t111 != 3) = false := bne_eq_false_iff_eq.mpr c23
                    clear c23
                    by_cases c24 : (x7_1.size : Int) > 990
                    · rw [if_pos c24] at H
                      have c24b0 : decide (990 < (x7_1.size : Int)) = true := decide_eq_true c24
                      have c24b1 : decide (990 < x7_1.size) = true := decide_eq_true (by omega)
                      clear c24
                      replace H := Option.bind_eq_some_iff.mp H
                      obtain ⟨t113, A250, H⟩ := H
                      replace H : (some t113) = some r := H
                      have A25 := Aside0.mk A250
                      clear A250
                      obtain rfl := Option.some.inj H
                      go_wp2_with (first | ((with_reducible refine gate_callee (f := 8) rfl ?_); refine goesL_ (some 50) rfl rfl Tryd.func8 (by kernel_rfl) rfl #[.string (x7_1 ++ (⟨#[47, 47, 46]⟩ : ByteArray))] rfl (by (try simp only [List.map_toArray, List.map_cons, List.map_nil]); first | done | rfl | (simp only [List.length_drop, List.length_take]; rfl)) ?_; (with_reducible refine (path_Clean.calls (x7_1 ++ (⟨#[47, 47, 46]⟩ : ByteArray)) t110 t111 _ A17.out).mono ?_); rintro e w26 ⟨rfl, hb⟩; refine ⟨_, rfl, ?_⟩; have n0_ := Aside0.mk (below_step (by repeat (first | (with_reducible first | exact HB.out | apply below_alloc | apply pw_below_drewN | apply below_drew1) | exact HB.out)) hb); clear HB; have HB := n0_; clear n0_; (try clear hb); (try clear hb2); (try clear hk); (try clear hi)) | (go_at_call 9; (with_reducible refine (bellowslaw03_awake.calls  t113 _ A25.out).mono ?_); rintro e w27 ⟨rfl, hb⟩; have n0_ := Aside0.mk (below_step (by repeat (first | (with_reducible first | exact HB.out | apply below_alloc | apply pw_below_drewN | apply below_drew1) | exact HB.out)) hb); clear HB; have HB := n0_; clear n0_; (try clear hb); (try clear hb2); (try clear hk); (try clear hi)))
                      go_ret
                      exact ⟨by first | rfl | (simp [errW_none, errW_some] <;> rfl) | (simp [*, errW_none, errW_some] <;> rfl), by repeat (first | (with_reducible first | exact HB.out | apply below_alloc | apply pw_below_drewN | apply below_drew1) | exact HB.out)⟩
                    · rw [if_neg c24] at H
                      have c24b0 : decide (990 < (x7_1.size : Int)) = false := decide_eq_false c24
                      have c24b1 : decide (990 < x7_1.size) = false := decide_eq_false (by omega)
                      clear c24
                      obtain rfl := Option.some.inj H
                      go_wp2_with (first | ((with_reducible refine gate_callee (f := 8) rfl ?_); refine goesL_ (some 50) rfl rfl Tryd.func8 (by kernel_rfl) rfl #[.string (x7_1 ++ (⟨#[47, 47, 46]⟩ : ByteArray))] rfl (by (try simp only [List.map_toArray, List.map_cons, List.map_nil]); first | done | rfl | (simp only [List.length_drop, List.length_take]; rfl)) ?_; (with_reducible refine (path_Clean.calls (x7_1 ++ (⟨#[47, 47, 46]⟩ : ByteArray)) t110 t111 _ A17.out).mono ?_); rintro e w28 ⟨rfl, hb⟩; refine ⟨_, rfl, ?_⟩; have n0_ := Aside0.mk (below_step (by repeat (first | (with_reducible first | exact HB.out | apply below_alloc | apply pw_below_drewN | apply below_drew1) | exact HB.out)) hb); clear HB; have HB := n0_; clear n0_; (try clear hb); (try clear hb2); (try clear hk); (try clear hi)))
                      go_ret
                      exact ⟨by first | rfl | (simp [errW_none, errW_some] <;> rfl) | (simp [*, errW_none, errW_some] <;> rfl), by repeat (first | (with_reducible first | exact HB.out | apply below_alloc | apply pw_below_drewN | apply below_drew1) | exact HB.out)⟩
                  · rw [if_neg c23] at H
                    have c23b0 : (t111 == 3) = false := beq_eq_false_iff_ne.mpr c23
                    have c23b1 : (t111 != 3) = true := bne_iff_ne.mpr c23
                    obtain rfl := Option.some.inj H
                    go_wp2_with (first | ((with_reducible refine gate_callee (f := 8) rfl ?_); refine goesL_ (some 50) rfl rfl Tryd.func8 (by kernel_rfl) rfl #[.string (x7_1 ++ (⟨#[47, 47, 46]⟩ : ByteArray))] rfl (by (try simp only [List.map_toArray, List.map_cons, List.map_nil]); first | done | rfl | (simp only [List.length_drop, List.length_take]; rfl)) ?_; (with_reducible refine (path_Clean.calls (x7_1 ++ (⟨#[47, 47, 46]⟩ : ByteArray)) t110 t111 _ A17.out).mono ?_); rintro e w29 ⟨rfl, hb⟩; refine ⟨_, rfl, ?_⟩; have n0_ := Aside0.mk (below_step (by repeat (first | (with_reducible first | exact HB.out | apply below_alloc | apply pw_below_drewN | apply below_drew1) | exact HB.out)) hb); clear HB; have HB := n0_; clear n0_; (try clear hb); (try clear hb2); (try clear hk); (try clear hi)))
                    go_ret
                    exact ⟨by first | rfl | (simp [errW_none, errW_some] <;> rfl) | (simp [*, errW_none, errW_some] <;> rfl), by repeat (first | (with_reducible first | exact HB.out | apply below_alloc | apply pw_below_drewN | apply below_drew1) | exact HB.out)⟩
              · rw [if_neg c18] at H
                have c18b0 : (t111 == 0) = false := beq_eq_false_iff_ne.mpr c18
                have c18b1 : (t111 != 0) = true := bne_iff_ne.mpr c18
                by_cases c30 : t111 = 3
                · rw [if_pos c30] at H
                  have c30b0 : (t111 == 3) = true := beq_iff_eq.mpr c30
                  have c30b1 : (t111 != 3) = false := bne_eq_false_iff_eq.mpr c30
                  clear c30
                  by_cases c31 : (x7_1.size : Int) > 990
                  · rw [if_pos c31] at H
                    have c31b0 : decide (990 < (x7_1.size : Int)) = true := decide_eq_true c31
                    have c31b1 : decide (990 < x7_1.size) = true := decide_eq_true (by omega)
                    clear c31
                    replace H := Option.bind_eq_some_iff.mp H
                    obtain ⟨t114, A320, H⟩ := H
                    replace H : (some t114) = some r := H
                    have A32 := Aside0.mk A320
                    clear A320
                    obtain rfl := Option.some.inj H
                    go_wp2_with (first | ((with_reducible refine gate_callee (f := 8) rfl ?_); refine goesL_ (some 50) rfl rfl Tryd.func8 (by kernel_rfl) rfl #[.string (x7_1 ++ (⟨#[47, 47, 46]⟩ : ByteArray))] rfl (by (try simp only [List.map_toArray, List.map_cons, List.map_nil]); first | done | rfl | (simp only [List.length_drop, List.length_take]; rfl)) ?_; (with_reducible refine (path_Clean.calls (x7_1 ++ (⟨#[47, 47, 46]⟩ : ByteArray)) t110 t111 _ A17.out).mono ?_); rintro e w33 ⟨rfl, hb⟩; refine ⟨_, rfl, ?_⟩; have n0_ := Aside0.mk (below_step (by repeat (first | (with_reducible first | exact HB.out | apply below_alloc | apply pw_below_drewN | apply below_drew1) | exact HB.out)) hb); clear HB; have HB := n0_; clear n0_; (try clear hb); (try clear hb2); (try clear hk); (try clear hi)) | (go_at_call 9; (with_reducible refine (bellowslaw03_awake.calls  t114 _ A32.out).mono ?_); rintro e w34 ⟨rfl, hb⟩; have n0_ := Aside0.mk (below_step (by repeat (first | (with_reducible first | exact HB.out | apply below_alloc | apply pw_below_drewN | apply below_drew1) | exact HB.out)) hb); clear HB; have HB := n0_; clear n0_; (try clear hb); (try clear hb2); (try clear hk); (try clear hi)))
                    go_ret
                    exact ⟨by first | rfl | (simp [errW_none, errW_some] <;> rfl) | (simp [*, errW_none, errW_some] <;> rfl), by repeat (first | (with_reducible first | exact HB.out | apply below_alloc | apply pw_below_drewN | apply below_drew1) | exact HB.out)⟩
                  · rw [if_neg c31] at H
                    have c31b0 : decide (990 < (x7_1.size : Int)) = false := decide_eq_false c31
                    have c31b1 : decide (990 < x7_1.size) = false := decide_eq_false (by omega)
                    clear c31
                    obtain rfl := Option.some.inj H
                    go_wp2_with (first | ((with_reducible refine gate_callee (f := 8) rfl ?_); refine goesL_ (some 50) rfl rfl Tryd.func8 (by kernel_rfl) rfl #[.string (x7_1 ++ (⟨#[47, 47, 46]⟩ : ByteArray))] rfl (by (try simp only [List.map_toArray, List.map_cons, List.map_nil]); first | done | rfl | (simp only [List.length_drop, List.length_take]; rfl)) ?_; (with_reducible refine (path_Clean.calls (x7_1 ++ (⟨#[47, 47, 46]⟩ : ByteArray)) t110 t111 _ A17.out).mono ?_); rintro e w35 ⟨rfl, hb⟩; refine ⟨_, rfl, ?_⟩; have n0_ := Aside0.mk (below_step (by repeat (first | (with_reducible first | exact HB.out | apply below_alloc | apply pw_below_drewN | apply below_drew1) | exact HB.out)) hb); clear HB; have HB := n0_; clear n0_; (try clear hb); (try clear hb2); (try clear hk); (try clear hi)))
                    go_ret
                    exact ⟨by first | rfl | (simp [errW_none, errW_some] <;> rfl) | (simp [*, errW_none, errW_some] <;> rfl), by repeat (first | (with_reducible first | exact HB.out | apply below_alloc | apply pw_below_drewN | apply below_drew1) | exact HB.out)⟩
                · rw [if_neg c30] at H
                  have c30b0 : (t111 == 3) = false := beq_eq_false_iff_ne.mpr c30
                  have c30b1 : (t111 != 3) = true := bne_iff_ne.mpr c30
                  obtain rfl := Option.some.inj H
                  go_wp2_with (first | ((with_reducible refine gate_callee (f := 8) rfl ?_); refine goesL_ (some 50) rfl rfl Tryd.func8 (by kernel_rfl) rfl #[.string (x7_1 ++ (⟨#[47, 47, 46]⟩ : ByteArray))] rfl (by (try simp only [List.map_toArray, List.map_cons, List.map_nil]); first | done | rfl | (simp only [List.length_drop, List.length_take]; rfl)) ?_; (with_reducible refine (path_Clean.calls (x7_1 ++ (⟨#[47, 47, 46]⟩ : ByteArray)) t110 t111 _ A17.out).mono ?_); rintro e w36 ⟨rfl, hb⟩; refine ⟨_, rfl, ?_⟩; have n0_ := Aside0.mk (below_step (by repeat (first | (with_reducible first | exact HB.out | apply below_alloc | apply pw_below_drewN | apply below_drew1) | exact HB.out)) hb); clear HB; have HB := n0_; clear n0_; (try clear hb); (try clear hb2); (try clear hk); (try clear hi)))
                  go_ret
                  exact ⟨by first | rfl | (simp [errW_none, errW_some] <;> rfl) | (simp [*, errW_none, errW_some] <;> rfl), by repeat (first | (with_reducible first | exact HB.out | apply below_alloc | apply pw_below_drewN | apply below_drew1) | exact HB.out)⟩
            · rw [if_neg c16] at H
              exact absurd H (by simp)
    · rw [if_neg c5] at H
      have c5b0 : (t108 == 0) = false := beq_eq_false_iff_ne.mpr c5
      have c5b1 : (t108 != 0) = true := bne_iff_ne.mpr c5
      replace H := Option.bind_eq_some_iff.mp H
      obtain ⟨t109, A370, H⟩ := H
      replace H : (some t109) = some r := H
      have A37 := Aside0.mk A370
      clear A370
      obtain rfl := Option.some.inj H
      go_enter Tryd.func3, Tryd.ntmps3
      go_wp2_with (first | ((with_reducible refine gate_callee (f := 8) rfl ?_); refine goesL_ (some 16) rfl rfl Tryd.func8 (by kernel_rfl) rfl #[.string a0] rfl (by (try simp only [List.map_toArray, List.map_cons, List.map_nil]); first | done | rfl | (simp only [List.length_drop, List.length_take]; rfl)) ?_; (with_reducible refine (path_Clean.calls a0 t107 t108 _ A4.out).mono ?_); rintro e w38 ⟨rfl, hb⟩; refine ⟨_, rfl, ?_⟩; have n0_ := Aside0.mk (below_step (by repeat (first | (with_reducible first | exact HB.out | apply below_alloc | apply pw_below_drewN | apply below_drew1) | exact HB.out)) hb); clear HB; have HB := n0_; clear n0_; (try clear hb); (try clear hb2); (try clear hk); (try clear hi)) | ((with_reducible refine gate_callee (f := 9) rfl ?_); refine goesL_ (some 21) rfl rfl Tryd.func9 (by kernel_rfl) rfl #[] rfl (by (try simp only [List.map_toArray, List.map_cons, List.map_nil]); first | done | rfl | (simp only [List.length_drop, List.length_take]; rfl)) ?_; (with_reducible refine (bellowslaw03_awake.calls  t109 _ A37.out).mono ?_); rintro e w39 ⟨rfl, hb⟩; refine ⟨_, rfl, ?_⟩; have n0_ := Aside0.mk (below_step (by repeat (first | (with_reducible first | exact HB.out | apply below_alloc | apply pw_below_drewN | apply below_drew1) | exact HB.out)) hb); clear HB; have HB := n0_; clear n0_; (try clear hb); (try clear hb2); (try clear hk); (try clear hi)))
      go_ret
      exact ⟨by first | rfl | (simp [errW_none, errW_some] <;> rfl) | (simp [*, errW_none, errW_some] <;> rfl), by repeat (first | (with_reducible first | exact HB.out | apply below_alloc | apply pw_below_drewN | apply below_drew1) | exact HB.out)⟩

/-- THE ONE PURE STATEMENT of bellowslaw03_PathDots: yours. -/
def bellowslaw03_PathDots.Pure : Prop := ∀ (a0 : ByteArray) (a1 : Int), a0.size ≤ 140737488351232 → (Lit.int .u8 a1).wf = true → ∃ k, bellowslaw03_PathDots.f k a0 a1 = some true
theorem bellowslaw03_PathDots.walk (P : bellowslaw03_PathDots.Pure) (a0 : ByteArray) (a1 : Int) (w : World) (w0 : a0.size ≤ 140737488351232) (w1 : (Lit.int .u8 a1).wf = true) :
    Calls Tryd.prog 3 #[.string a0, .int .u8 a1] w fun e w' => e = .returned (.bool true) ∧ Below w.heap.size w w' := by
  obtain ⟨k, h⟩ := P a0 a1 w0 w1
  refine (bellowslaw03_PathDots.calls k a0 a1 true w h).mono ?_
  rintro e w' ⟨rfl, hd⟩
  exact ⟨rfl, hd⟩

end Go.Proofs.YtdnjfjcedcdlnaaDoor.P
