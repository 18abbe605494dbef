-- printed by wip/tools/pr.py, a program of this session's, with the kit's print.py
import Derived.Test.YtaocdnebglnkeaaDoorP0
import Derived.Test.YtaocdnebglnkeaaDoorPBellowsref03Plain0
namespace Go.Proofs.YtaocdnebglnkeaaDoor.P
open Go.RowKit Go.Proofs.YtaocdnebglnkeaaDoorW.PrintWords Go.Proofs.YtaocdnebglnkeaaDoorW.PrintLast Go.Proofs.YtaocdnebglnkeaaDoorW.PrintMore
attribute [local go_sem] max2_int min2_int max_two min_two max_three min_three max_four min_four
set_option linter.unusedVariables false
set_option linter.unusedSimpArgs false

/-! ### bellowsref03_Clean: function 16 -/
mutual
def bellowsref03_Clean.l0 : Nat → ByteArray → Int → Option (ByteArray × Int)
  | 0, _, _ => none
  | k + 1, x0, x4 => if x4 < (x0.size : Int) then (if 0 ≤ x4 then ((bellowsref03_plain.f (bt x0 x4)).bind fun t108 => (if t108 = true then (if x4 = 0 then (if (bt x0 x4) = 47 then (some ((⟨#[]⟩ : ByteArray), 5)) else (bellowsref03_Clean.l0 k x0 (wrap64 (x4 + 1)))) else (bellowsref03_Clean.l0 k x0 (wrap64 (x4 + 1)))) else (some ((⟨#[]⟩ : ByteArray), 5)))) else (none)) else (bellowsref03_Clean.l1 k x0 ([] : List ByteArray) 0 0)
def bellowsref03_Clean.l1 : Nat → ByteArray → List ByteArray → Int → Int → Option (ByteArray × Int)
  | 0, _, _, _, _ => none
  | k + 1, x0, x5, x6, x7 => if x7 ≤ (x0.size : Int) then (if x7 < (x0.size : Int) then (if 0 ≤ x7 then (bellowsref03_Clean.j2 k x0 x5 x6 x7 ((bt x0 x7) != 47)) else (none)) else (bellowsref03_Clean.j2 k x0 x5 x6 x7 false)) else (bellowsref03_Clean.l2 k x5 (⟨#[]⟩ : ByteArray) 0)
def bellowsref03_Clean.j2 : Nat → ByteArray → List ByteArray → Int → Int → Bool → Option (ByteArray × Int)
  | 0, _, _, _, _, _ => none
  | k + 1, x0, x5, x6, x7, x50 => if x50 = true then (bellowsref03_Clean.l1 k x0 x5 x6 (wrap64 (x7 + 1))) else (if 0 ≤ x6 then (if x6 ≤ x7 then (if x7 ≤ (x0.size : Int) then (if (x0.extract (x6 : Int).toNat (x7 : Int).toNat).toList = ([] : List UInt8) then (bellowsref03_Clean.j3 k x0 x5 (wrap64 (x7 + 1)) x7 (x0.extract (x6 : Int).toNat (x7 : Int).toNat) true) else (bellowsref03_Clean.j3 k x0 x5 (wrap64 (x7 + 1)) x7 (x0.extract (x6 : Int).toNat (x7 : Int).toNat) ((x0.extract (x6 : Int).toNat (x7 : Int).toNat).toList == ([46] : List UInt8)))) else (none)) else (none)) else (none))
def bellowsref03_Clean.j3 : Nat → ByteArray → List ByteArray → Int → Int → ByteArray → Bool → Option (ByteArray × Int)
  | 0, _, _, _, _, _, _ => none
  | k + 1, x0, x5, x6, x7, x8, x62 => if x62 = true then (bellowsref03_Clean.l1 k x0 x5 x6 (wrap64 (x7 + 1))) else (if x8.toList = ([46, 46] : List UInt8) then (bellowsref03_Clean.j4 k x0 x5 x6 x7 x8 ((x5.length : Int) == 0)) else (bellowsref03_Clean.j4 k x0 x5 x6 x7 x8 false))
def bellowsref03_Clean.j4 : Nat → ByteArray → List ByteArray → Int → Int → ByteArray → Bool → Option (ByteArray × Int)
  | 0, _, _, _, _, _, _ => none
  | k + 1, x0, x5, x6, x7, x8, x69 => if x69 = true then (some ((⟨#[]⟩ : ByteArray), 5)) else (if x8.toList = ([46, 46] : List UInt8) then (if 0 ≤ (wrap64 ((x5.length : Int) - 1)) then (if (wrap64 ((x5.length : Int) - 1)) ≤ (x5.length : Int) then (bellowsref03_Clean.l1 k x0 (x5.take ((wrap64 ((x5.length : Int) - 1)) : Int).toNat) x6 (wrap64 (x7 + 1))) else (none)) else (none)) else (if x5.length < 8796093022208 then (bellowsref03_Clean.l1 k x0 (x5 ++ [x8]) x6 (wrap64 (x7 + 1))) else (none)))
def bellowsref03_Clean.l2 : Nat → List ByteArray → ByteArray → Int → Option (ByteArray × Int)
  | 0, _, _, _ => none
  | k + 1, x5, x9, x10 => if x10 < (x5.length : Int) then (if x10 > 0 then (if x9.size + 1 ≤ 9223372036854775807 then (if 0 ≤ x10 then (if (x9 ++ (⟨#[47]⟩ : ByteArray)).size + (rdOf ByteArray.empty x5 x10).size ≤ 9223372036854775807 then (bellowsref03_Clean.l2 k x5 ((x9 ++ (⟨#[47]⟩ : ByteArray)) ++ (rdOf ByteArray.empty x5 x10)) (wrap64 (x10 + 1))) else (none)) else (none)) else (none)) else (if 0 ≤ x10 then (if x9.size + (rdOf ByteArray.empty x5 x10).size ≤ 9223372036854775807 then (bellowsref03_Clean.l2 k x5 (x9 ++ (rdOf ByteArray.empty x5 x10)) (wrap64 (x10 + 1))) else (none)) else (none))) else (if x9.toList = ([] : List UInt8) then (some ((⟨#[]⟩ : ByteArray), 5)) else (if (x9.size : Int) > 100 then (some ((⟨#[]⟩ : ByteArray), 3)) else (some (x9, 0))))
end
def bellowsref03_Clean.f (k : Nat) (a0 : ByteArray) : Option (ByteArray × Int) := if (a0.size : Int) > 1000 then (some ((⟨#[]⟩ : ByteArray), 3)) else (bellowsref03_Clean.l0 k a0 0)
theorem bellowsref03_Clean.mono_l : ∀ k, (∀ y0 y1, LeO (bellowsref03_Clean.l0 k y0 y1) (bellowsref03_Clean.l0 (k + 1) y0 y1)) ∧ (∀ y0 y1 y2 y3, LeO (bellowsref03_Clean.l1 k y0 y1 y2 y3) (bellowsref03_Clean.l1 (k + 1) y0 y1 y2 y3)) ∧ (∀ y0 y1 y2 y3 y4, LeO (bellowsref03_Clean.j2 k y0 y1 y2 y3 y4) (bellowsref03_Clean.j2 (k + 1) y0 y1 y2 y3 y4)) ∧ (∀ y0 y1 y2 y3 y4 y5, LeO (bellowsref03_Clean.j3 k y0 y1 y2 y3 y4 y5) (bellowsref03_Clean.j3 (k + 1) y0 y1 y2 y3 y4 y5)) ∧ (∀ y0 y1 y2 y3 y4 y5, LeO (bellowsref03_Clean.j4 k y0 y1 y2 y3 y4 y5) (bellowsref03_Clean.j4 (k + 1) y0 y1 y2 y3 y4 y5)) ∧ (∀ y0 y1 y2, LeO (bellowsref03_Clean.l2 k y0 y1 y2) (bellowsref03_Clean.l2 (k + 1) y0 y1 y2))
  | 0 => ⟨fun _ _ r h => by simp [bellowsref03_Clean.l0] at h, fun _ _ _ _ r h => by simp [bellowsref03_Clean.l1] at h, fun _ _ _ _ _ r h => by simp [bellowsref03_Clean.j2] at h, fun _ _ _ _ _ _ r h => by simp [bellowsref03_Clean.j3] at h, fun _ _ _ _ _ _ r h => by simp [bellowsref03_Clean.j4] at h, fun _ _ _ r h => by simp [bellowsref03_Clean.l2] at h⟩
  | k + 1 => by
    obtain ⟨ih0, ih1, ih2, ih3, ih4, ih5⟩ := bellowsref03_Clean.mono_l k
    refine ⟨?_, ?_, ?_, ?_, ?_, ?_⟩
    · intro y0 y1
      unfold bellowsref03_Clean.l0
      repeat' first
      | (with_reducible exact ih0 _ _)
      | (with_reducible exact ih1 _ _ _ _)
      | (with_reducible exact ih2 _ _ _ _ _)
      | (with_reducible exact ih3 _ _ _ _ _ _)
      | (with_reducible exact ih4 _ _ _ _ _ _)
      | (with_reducible exact ih5 _ _ _)
      | (with_reducible exact LeO.refl _)
      | (with_reducible exact LeO.none _)
      | (with_reducible refine LeO.ite ?_ ?_)
      | (with_reducible refine LeO.bind ?_ (fun _ => ?_))
      | exact ih0 _ _
      | exact ih1 _ _ _ _
      | exact ih2 _ _ _ _ _
      | exact ih3 _ _ _ _ _ _
      | exact ih4 _ _ _ _ _ _
      | exact ih5 _ _ _
      | exact LeO.none _
      | refine LeO.ite ?_ ?_
      | refine LeO.bind ?_ (fun _ => ?_)
    · intro y0 y1 y2 y3
      unfold bellowsref03_Clean.l1
      repeat' first
      | (with_reducible exact ih0 _ _)
      | (with_reducible exact ih1 _ _ _ _)
      | (with_reducible exact ih2 _ _ _ _ _)
      | (with_reducible exact ih3 _ _ _ _ _ _)
      | (with_reducible exact ih4 _ _ _ _ _ _)
      | (with_reducible exact ih5 _ _ _)
      | (with_reducible exact LeO.refl _)
      | (with_reducible exact LeO.none _)
      | (with_reducible refine LeO.ite ?_ ?_)
      | (with_reducible refine LeO.bind ?_ (fun _ => ?_))
      | exact ih0 _ _
      | exact ih1 _ _ _ _
      | exact ih2 _ _ _ _ _
      | exact ih3 _ _ _ _ _ _
      | exact ih4 _ _ _ _ _ _
      | exact ih5 _ _ _
      | exact LeO.none _
      | refine LeO.ite ?_ ?_
      | refine LeO.bind ?_ (fun _ => ?_)
    · intro y0 y1 y2 y3 y4
      unfold bellowsref03_Clean.j2
      repeat' first
      | (with_reducible exact ih0 _ _)
      | (with_reducible exact ih1 _ _ _ _)
      | (with_reducible exact ih2 _ _ _ _ _)
      | (with_reducible exact ih3 _ _ _ _ _ _)
      | (with_reducible exact ih4 _ _ _ _ _ _)
      | (with_reducible exact ih5 _ _ _)
      | (with_reducible exact LeO.refl _)
      | (with_reducible exact LeO.none _)
      | (with_reducible refine LeO.ite ?_ ?_)
      | (with_reducible refine LeO.bind ?_ (fun _ => ?_))
      | exact ih0 _ _
      | exact ih1 _ _ _ _
      | exact ih2 _ _ _ _ _
      | exact ih3 _ _ _ _ _ _
      | exact ih4 _ _ _ _ _ _
      | exact ih5 _ _ _
      | exact LeO.none _
      | refine LeO.ite ?_ ?_
      | refine LeO.bind ?_ (fun _ => ?_)
    · intro y0 y1 y2 y3 y4 y5
      unfold bellowsref03_Clean.j3
      repeat' first
      | (with_reducible exact ih0 _ _)
      | (with_reducible exact ih1 _ _ _ _)
      | (with_reducible exact ih2 _ _ _ _ _)
      | (with_reducible exact ih3 _ _ _ _ _ _)
      | (with_reducible exact ih4 _ _ _ _ _ _)
      | (with_reducible exact ih5 _ _ _)
      | (with_reducible exact LeO.refl _)
      | (with_reducible exact LeO.none _)
      | (with_reducible refine LeO.ite ?_ ?_)
      | (with_reducible refine LeO.bind ?_ (fun _ => ?_))
      | exact ih0 _ _
      | exact ih1 _ _ _ _
      | exact ih2 _ _ _ _ _
      | exact ih3 _ _ _ _ _ _
      | exact ih4 _ _ _ _ _ _
      | exact ih5 _ _ _
      | exact LeO.none _
      | refine LeO.ite ?_ ?_
      | refine LeO.bind ?_ (fun _ => ?_)
    · intro y0 y1 y2 y3 y4 y5
      unfold bellowsref03_Clean.j4
      repeat' first
      | (with_reducible exact ih0 _ _)
      | (with_reducible exact ih1 _ _ _ _)
      | (with_reducible exact ih2 _ _ _ _ _)
      | (with_reducible exact ih3 _ _ _ _ _ _)
      | (with_reducible exact ih4 _ _ _ _ _ _)
      | (with_reducible exact ih5 _ _ _)
      | (with_reducible exact LeO.refl _)
      | (with_reducible exact LeO.none _)
      | (with_reducible refine LeO.ite ?_ ?_)
      | (with_reducible refine LeO.bind ?_ (fun _ => ?_))
      | exact ih0 _ _
      | exact ih1 _ _ _ _
      | exact ih2 _ _ _ _ _
      | exact ih3 _ _ _ _ _ _
      | exact ih4 _ _ _ _ _ _
      | exact ih5 _ _ _
      | exact LeO.none _
      | refine LeO.ite ?_ ?_
      | refine LeO.bind ?_ (fun _ => ?_)
    · intro y0 y1 y2
      unfold bellowsref03_Clean.l2
      repeat' first
      | (with_reducible exact ih0 _ _)
      | (with_reducible exact ih1 _ _ _ _)
      | (with_reducible exact ih2 _ _ _ _ _)
      | (with_reducible exact ih3 _ _ _ _ _ _)
      | (with_reducible exact ih4 _ _ _ _ _ _)
      | (with_reducible exact ih5 _ _ _)
      | (with_reducible exact LeO.refl _)
      | (with_reducible exact LeO.none _)
      | (with_reducible refine LeO.ite ?_ ?_)
      | (with_reducible refine LeO.bind ?_ (fun _ => ?_))
      | exact ih0 _ _
      | exact ih1 _ _ _ _
      | exact ih2 _ _ _ _ _
      | exact ih3 _ _ _ _ _ _
      | exact ih4 _ _ _ _ _ _
      | exact ih5 _ _ _
      | exact LeO.none _
      | refine LeO.ite ?_ ?_
      | refine LeO.bind ?_ (fun _ => ?_)
theorem bellowsref03_Clean.mono : ∀ a0 k, LeO (bellowsref03_Clean.f k a0) (bellowsref03_Clean.f (k + 1) a0) := by
  intro a0 k
  obtain ⟨ih0, ih1, ih2, ih3, ih4, ih5⟩ := bellowsref03_Clean.mono_l k
  unfold bellowsref03_Clean.f
  repeat' first
      | (with_reducible exact ih0 _ _)
      | (with_reducible exact ih1 _ _ _ _)
      | (with_reducible exact ih2 _ _ _ _ _)
      | (with_reducible exact ih3 _ _ _ _ _ _)
      | (with_reducible exact ih4 _ _ _ _ _ _)
      | (with_reducible exact ih5 _ _ _)
      | (with_reducible exact LeO.refl _)
      | (with_reducible exact LeO.none _)
      | (with_reducible refine LeO.ite ?_ ?_)
      | (with_reducible refine LeO.bind ?_ (fun _ => ?_))
      | exact ih0 _ _
      | exact ih1 _ _ _ _
      | exact ih2 _ _ _ _ _
      | exact ih3 _ _ _ _ _ _
      | exact ih4 _ _ _ _ _ _
      | exact ih5 _ _ _
      | exact LeO.none _
      | refine LeO.ite ?_ ?_
      | refine LeO.bind ?_ (fun _ => ?_)
set_option maxHeartbeats 8000000 in
set_option maxRecDepth 100000 in
theorem bellowsref03_Clean.calls (k : Nat) (a0 : ByteArray) (r1 : ByteArray) (r2 : Int) (w : World) (h : bellowsref03_Clean.f k a0 = some (r1, r2)) :
    Calls Tryd.prog 16 #[.string a0] w fun e w' => e = .returned (.tuple #[.string r1, .int .i64 r2]) ∧ Below w.heap.size w w' := by
  have HB := Aside0.mk (Below.refl w.heap.size w)
  have H : (if (a0.size : Int) > 1000 then (some ((⟨#[]⟩ : ByteArray), 3)) else (bellowsref03_Clean.l0 k a0 0)) = some (r1, r2) := h
  clear h
  by_cases c2 : (a0.size : Int) > 1000
  · rw [if_pos c2] at H
    have c2b0 : decide (1000 < (a0.size : Int)) = true := decide_eq_true c2
    have c2b1 : decide (1000 < a0.size) = true := decide_eq_true (by omega)
    clear c2
    simp only [Option.some.injEq, Prod.mk.injEq] at H
    obtain ⟨rfl, rfl⟩ := H
    go_enter Tryd.func16, Tryd.ntmps16
    go_wp2
    go_ret2
    exact ⟨by first | rfl | (simp [errW_none, errW_some] <;> rfl) | (simp [*, errW_none, errW_some] <;> rfl), by repeat (first | (with_reducible first | exact HB.out | apply below_alloc | apply pw_below_drewN | apply below_drew1) | exact HB.out)⟩
  · rw [if_neg c2] at H
    have c2b0 : decide (1000 < (a0.size : Int)) = false := decide_eq_false c2
    have c2b1 : decide (1000 < a0.size) = false := decide_eq_false (by omega)
    clear c2
    have H' := Aside0.mk H
    clear H
    go_enter Tryd.func16, Tryd.ntmps16
    go_wp2
    go_loopg [4] k (fun kq v4 w' => ∃ (x4_1 : Int), v4 = .int .i64 x4_1 ∧ Aside0 (bellowsref03_Clean.l0 kq a0 x4_1 = some (r1, r2)) ∧ Aside0 (kq ≤ k) ∧ Aside0 (Below w.heap.size w w'))
    case atStart => exact ⟨(0), (by first | rfl | (simp; done) | (simp [*]; done)), H', ⟨Nat.le_refl _⟩, ⟨by repeat (first | (with_reducible first | exact HB.out | apply below_alloc | apply pw_below_drewN | apply below_drew1) | exact HB.out)⟩⟩
    case round =>
      clear H'
      try clear c1
      try clear c2
      try clear c2b0
      try clear c2b1
      try clear p2
      obtain ⟨x4_1, rfl, HA, HK1, HB⟩ := hrel
      cases gk with
      | zero => exact absurd HA.out (by simp [bellowsref03_Clean.l0])
      | succ k1 =>
        have H := HA.out
        clear HA
        simp only [bellowsref03_Clean.l0] at H
        by_cases c3 : x4_1 < (a0.size : Int)
        · rw [if_pos c3] at H
          have c3b0 : decide (x4_1 < (a0.size : Int)) = true := decide_eq_true c3
          clear c3
          by_cases c4 : 0 ≤ x4_1
          · rw [if_pos c4] at H
            have c4b0 : decide (0 ≤ x4_1) = true := decide_eq_true c4
            clear c4
            replace H := Option.bind_eq_some_iff.mp H
            obtain ⟨t108, A60, H⟩ := H
            replace H : (if t108 = true then (if x4_1 = 0 then (if (bt a0 x4_1) = 47 then (some ((⟨#[]⟩ : ByteArray), 5)) else (bellowsref03_Clean.l0 k1 a0 (wrap64 (x4_1 + 1)))) else (bellowsref03_Clean.l0 k1 a0 (wrap64 (x4_1 + 1)))) else (some ((⟨#[]⟩ : ByteArray), 5))) = some (r1, r2) := H
            have A6 := Aside0.mk A60
            clear A60
            by_cases c7 : t108 = true
            · subst c7
              have H1 : (if x4_1 = 0 then (if (bt a0 x4_1) = 47 then (some ((⟨#[]⟩ : ByteArray), 5)) else (bellowsref03_Clean.l0 k1 a0 (wrap64 (x4_1 + 1)))) else (bellowsref03_Clean.l0 k1 a0 (wrap64 (x4_1 + 1)))) = some (r1, r2) := by rw [if_pos rfl] at H; exact H
              clear H
              have H := H1
              clear H1
              by_cases c8 : x4_1 = 0
              · rw [if_pos c8] at H
                have c8b0 : (x4_1 == 0) = true := beq_iff_eq.mpr c8
                have c8b1 : (x4_1 != 0) = false := bne_eq_false_iff_eq.mpr c8
                clear c8
                by_cases c10 : (bt a0 x4_1) = 47
                · rw [if_pos c10] at H
                  have c10b0 : ((bt a0 x4_1) == 47) = true := beq_iff_eq.mpr c10
                  have c10b1 : ((bt a0 x4_1) != 47) = false := bne_eq_false_iff_eq.mpr c10
                  clear c10
                  simp only [Option.some.injEq, Prod.mk.injEq] at H
                  obtain ⟨rfl, rfl⟩ := H
                  have p5 : 0 ≤ (x4_1 : Int) := of_decide_eq_true (by first | (with_reducible assumption) | assumption)
                  have q5 : x4_1 < (a0.size : Int) := of_decide_eq_true (by first | (with_reducible assumption) | assumption)
                  have hx5 := bt_at a0 x4_1
                  replace p5 := eq_true p5
                  replace q5 := eq_true q5
                  go_wp2_with (first | ((with_reducible refine gate_callee (f := 33) rfl ?_); refine goesL_ (some 23) rfl rfl Tryd.func33 (by kernel_rfl) rfl #[.int .u8 (bt a0 x4_1)] rfl (by (try simp only [List.map_toArray, List.map_cons, List.map_nil]); first | done | rfl | (simp only [List.length_drop, List.length_take]; rfl)) ?_; (with_reducible refine (bellowsref03_plain.calls (bt a0 x4_1) true _ A6.out).mono ?_); rintro e w' ⟨rfl, ⟨nd, rfl⟩⟩; refine ⟨_, rfl, ?_⟩; have p9 : 0 ≤ (x4_1 : Int) := of_decide_eq_true (by first | (with_reducible assumption) | assumption); have q9 : x4_1 < (a0.size : Int) := of_decide_eq_true (by first | (with_reducible assumption) | assumption); have hx9 := bt_at a0 x4_1; replace p9 := eq_true p9; replace q9 := eq_true q9))
                  go_ret2
                  exact ⟨by first | rfl | (simp [errW_none, errW_some] <;> rfl) | (simp [*, errW_none, errW_some] <;> rfl), by repeat (first | (with_reducible first | exact HB.out | apply below_alloc | apply pw_below_drewN | apply below_drew1) | exact HB.out)⟩
                · rw [if_neg c10] at H
                  have c10b0 : ((bt a0 x4_1) == 47) = false := beq_eq_false_iff_ne.mpr c10
                  have c10b1 : ((bt a0 x4_1) != 47) = true := bne_iff_ne.mpr c10
                  have H' := Aside0.mk H
                  clear H
                  have p5 : 0 ≤ (x4_1 : Int) := of_decide_eq_true (by first | (with_reducible assumption) | assumption)
                  have q5 : x4_1 < (a0.size : Int) := of_decide_eq_true (by first | (with_reducible assumption) | assumption)
                  have hx5 := bt_at a0 x4_1
                  replace p5 := eq_true p5
                  replace q5 := eq_true q5
                  go_wp2_with (first | ((with_reducible refine gate_callee (f := 33) rfl ?_); refine goesL_ (some 23) rfl rfl Tryd.func33 (by kernel_rfl) rfl #[.int .u8 (bt a0 x4_1)] rfl (by (try simp only [List.map_toArray, List.map_cons, List.map_nil]); first | done | rfl | (simp only [List.length_drop, List.length_take]; rfl)) ?_; (with_reducible refine (bellowsref03_plain.calls (bt a0 x4_1) true _ A6.out).mono ?_); rintro e w' ⟨rfl, ⟨nd, rfl⟩⟩; refine ⟨_, rfl, ?_⟩; have p9 : 0 ≤ (x4_1 : Int) := of_decide_eq_true (by first | (with_reducible assumption) | assumption); have q9 : x4_1 < (a0.size : Int) := of_decide_eq_true (by first | (with_reducible assumption) | assumption); have hx9 := bt_at a0 x4_1; replace p9 := eq_true p9; replace q9 := eq_true q9))
                  go_roundg k1
                  case measure => have := HK1.out; omega
                  case rel => exact ⟨(wrap64 (x4_1 + 1)), (by first | rfl | (simp; done) | (simp [*]; done)), H', ⟨by have := HK1.out; omega⟩, ⟨by repeat (first | (with_reducible first | exact HB.out | apply below_alloc | apply pw_below_drewN | apply below_drew1) | exact HB.out)⟩⟩
              · rw [if_neg c8] at H
                have c8b0 : (x4_1 == 0) = false := beq_eq_false_iff_ne.mpr c8
                have c8b1 : (x4_1 != 0) = true := bne_iff_ne.mpr c8
                have H' := Aside0.mk H
                clear H
                have p5 : 0 ≤ (x4_1 : Int) := of_decide_eq_true (by first | (with_reducible assumption) | assumption)
                have q5 : x4_1 < (a0.size : Int) := of_decide_eq_true (by first | (with_reducible assumption) | assumption)
                have hx5 := bt_at a0 x4_1
                replace p5 := eq_true p5
                replace q5 := eq_true q5
                go_wp2_with (first | ((with_reducible refine gate_callee (f := 33) rfl ?_); refine goesL_ (some 23) rfl rfl Tryd.func33 (by kernel_rfl) rfl #[.int .u8 (bt a0 x4_1)] rfl (by (try simp only [List.map_toArray, List.map_cons, List.map_nil]); first | done | rfl | (simp only [List.length_drop, List.length_take]; rfl)) ?_; (with_reducible refine (bellowsref03_plain.calls (bt a0 x4_1) true _ A6.out).mono ?_); rintro e w' ⟨rfl, ⟨nd, rfl⟩⟩; refine ⟨_, rfl, ?_⟩))
                go_roundg k1
                case measure => have := HK1.out; omega
                case rel => exact ⟨(wrap64 (x4_1 + 1)), (by first | rfl | (simp; done) | (simp [*]; done)), H', ⟨by have := HK1.out; omega⟩, ⟨by repeat (first | (with_reducible first | exact HB.out | apply below_alloc | apply pw_below_drewN | apply below_drew1) | exact HB.out)⟩⟩
            · replace c7 := Bool.eq_false_iff.mpr c7
              subst c7
              have H1 : (some ((⟨#[]⟩ : ByteArray), 5)) = some (r1, r2) := by rw [if_neg (show ¬ (false = true) by decide)] at H; exact H
              clear H
              have H := H1
              clear H1
              simp only [Option.some.injEq, Prod.mk.injEq] at H
              obtain ⟨rfl, rfl⟩ := H
              have p5 : 0 ≤ (x4_1 : Int) := of_decide_eq_true (by first | (with_reducible assumption) | assumption)
              have q5 : x4_1 < (a0.size : Int) := of_decide_eq_true (by first | (with_reducible assumption) | assumption)
              have hx5 := bt_at a0 x4_1
              replace p5 := eq_true p5
              replace q5 := eq_true q5
              go_wp2_with (first | ((with_reducible refine gate_callee (f := 33) rfl ?_); refine goesL_ (some 23) rfl rfl Tryd.func33 (by kernel_rfl) rfl #[.int .u8 (bt a0 x4_1)] rfl (by (try simp only [List.map_toArray, List.map_cons, List.map_nil]); first | done | rfl | (simp only [List.length_drop, List.length_take]; rfl)) ?_; (with_reducible refine (bellowsref03_plain.calls (bt a0 x4_1) false _ A6.out).mono ?_); rintro e w' ⟨rfl, ⟨nd, rfl⟩⟩; refine ⟨_, rfl, ?_⟩))
              go_ret2
              exact ⟨by first | rfl | (simp [errW_none, errW_some] <;> rfl) | (simp [*, errW_none, errW_some] <;> rfl), by repeat (first | (with_reducible first | exact HB.out | apply below_alloc | apply pw_below_drewN | apply below_drew1) | exact HB.out)⟩
          · rw [if_neg c4] at H
            exact absurd H (by simp)
        · rw [if_neg c3] at H
          have c3b0 : decide (x4_1 < (a0.size : Int)) = false := decide_eq_false c3
          clear c3
          have H' := Aside0.mk H
          clear H
          go_wp2
          go_loopg [5, 6, 7] k1 (fun kq v5 v6 v7 w' => ∃ (x5_2 : List ByteArray) (x6_2 : Int) (x7_2 : Int), v6 = .int .i64 x6_2 ∧ v7 = .int .i64 x7_2 ∧ Aside0 (bellowsref03_Clean.l1 kq a0 x5_2 x6_2 x7_2 = some (r1, r2)) ∧ Aside0 (kq ≤ k1) ∧ Aside0 (Kd.R Kd.string 9 w' w.heap.size (fun _ => True) v5 x5_2) ∧ Aside0 (Below w.heap.size w w'))
          case atStart => exact ⟨(([] : List ByteArray)), (0), (0), (by first | rfl | (simp; done) | (simp [*]; done)), (by first | rfl | (simp; done) | (simp [*]; done)), H', ⟨Nat.le_refl _⟩, ⟨by first | exact Kd.R_nil _ _ _ _ _ | exact Kd.N_nil _ _ _ _ _ | exact Kd.V_nil _ _ _ _ _ | exact Kd.Q_nil _ _ _ _ _ | exact Kd.S_nil _ _ _ _ _⟩, ⟨by repeat (first | (with_reducible first | exact HB.out | apply below_alloc | apply pw_below_drewN | apply below_drew1) | exact HB.out)⟩⟩
          case round =>
            clear H'
            try clear c1
            try clear c2
            try clear c2b0
            try clear c2b1
            try clear p2
            try clear c3
            try clear c3b0
            try clear c4
            try clear c4b0
            try clear p5
            try clear q5
            try clear hx5
            try clear p6
            try clear c7
            try clear c8
            try clear c8b0
            try clear c8b1
            try clear p9
            try clear q9
            try clear hx9
            try clear c10
            try clear c10b0
            try clear c10b1
            try clear p2
            try clear p5
            try clear p9
            try clear q5
            try clear q9
            obtain ⟨x5_2, x6_2, x7_2, rfl, rfl, HA, HK2, HO_5, HB⟩ := hrel
            cases gk with
            | zero => exact absurd HA.out (by simp [bellowsref03_Clean.l1])
            | succ k2 =>
              have H := HA.out
              clear HA
              simp only [bellowsref03_Clean.l1] at H
              by_cases c11 : x7_2 ≤ (a0.size : Int)
              · rw [if_pos c11] at H
                have c11b0 : decide (x7_2 ≤ (a0.size : Int)) = true := decide_eq_true c11
                clear c11
                have HC12 := Aside0.mk H
                clear H
                go_upto_region 13 with (fail)
                go_cut [50] (fun v50 wc => ∃ (kq : Nat) (x50_11 : Bool), v50 = .bool x50_11 ∧ Aside0 (bellowsref03_Clean.j2 kq a0 x5_2 x6_2 x7_2 x50_11 = some (r1, r2)) ∧ Aside0 (kq ≤ k2) ∧ Aside0 (Kd.R Kd.string 9 wc w.heap.size (fun _ => True) u5 x5_2) ∧ Aside0 (Below w.heap.size w wc))
                case first =>
                  have H := HC12.out
                  clear HC12
                  by_cases c13 : x7_2 < (a0.size : Int)
                  · rw [if_pos c13] at H
                    have c13b0 : decide (x7_2 < (a0.size : Int)) = true := decide_eq_true c13
                    clear c13
                    (first | rw [c13b0] | (simp only [i64_w, i32_w]; rw [c13b0]) | skip)
                    by_cases c14 : 0 ≤ x7_2
                    · rw [if_pos c14] at H
                      have c14b0 : decide (0 ≤ x7_2) = true := decide_eq_true c14
                      clear c14
                      have H' := Aside0.mk H
                      clear H
                      have p15 : 0 ≤ (x7_2 : Int) := of_decide_eq_true (by first | (with_reducible assumption) | assumption)
                      have q15 : x7_2 < (a0.size : Int) := of_decide_eq_true (by first | (with_reducible assumption) | assumption)
                      have hx15 := bt_at a0 x7_2
                      replace p15 := eq_true p15
                      replace q15 := eq_true q15
                      go_wp2
                      go_meet
                      case rel => exact ⟨_, (((bt a0 x7_2) != 47)), (by first | rfl | (simp; done) | (simp [*]; done)), H', ⟨by have := HK1.out; have := HK2.out; first | omega | exact Nat.le_refl _⟩, ⟨by (with_reducible repeat (first | apply Kd.R_alloc | apply Kd.R_drewN | apply Kd.R_drew)); exact HO_5.out⟩, ⟨by repeat (first | (with_reducible first | exact HB.out | apply below_alloc | apply pw_below_drewN | apply below_drew1) | exact HB.out)⟩⟩
                    · rw [if_neg c14] at H
                      exact absurd H (by simp)
                  · rw [if_neg c13] at H
                    have c13b0 : decide (x7_2 < (a0.size : Int)) = false := decide_eq_false c13
                    clear c13
                    (first | rw [c13b0] | (simp only [i64_w, i32_w]; rw [c13b0]) | skip)
                    have H' := Aside0.mk H
                    clear H
                    go_wp2
                    go_meet
                    case rel => exact ⟨_, (false), (by first | rfl | (simp; done) | (simp [*]; done)), H', ⟨by have := HK1.out; have := HK2.out; first | omega | exact Nat.le_refl _⟩, ⟨by (with_reducible repeat (first | apply Kd.R_alloc | apply Kd.R_drewN | apply Kd.R_drew)); exact HO_5.out⟩, ⟨by repeat (first | (with_reducible first | exact HB.out | apply below_alloc | apply pw_below_drewN | apply below_drew1) | exact HB.out)⟩⟩
                case rest =>
                  clear HC12
                  try clear c1
                  try clear p1
                  try clear q1
                  try clear hx1
                  try clear c2
                  try clear c2b0
                  try clear c2b1
                  try clear p2
                  try clear c3
                  try clear c3b0
                  try clear c4
                  try clear c4b0
                  try clear p5
                  try clear q5
                  try clear hx5
                  try clear p6
                  try clear c7
                  try clear c8
                  try clear c8b0
                  try clear c8b1
                  try clear p9
                  try clear q9
                  try clear hx9
                  try clear c10
                  try clear c10b0
                  try clear c10b1
                  try clear c11
                  try clear c11b0
                  try clear c13
                  try clear c13b0
                  try clear c14
                  try clear c14b0
                  try clear p15
                  try clear q15
                  try clear hx15
                  try clear p15
                  try clear p2
                  try clear p5
                  try clear p6
                  try clear p9
                  try clear q15
                  try clear q5
                  try clear q9
                  obtain ⟨kq, x50_11, rfl, HA, HJ11, HO_5, HB⟩ := hcut
                  cases kq with
                  | zero => exact absurd HA.out (by simp [bellowsref03_Clean.j2])
                  | succ kj11 =>
                    have H := HA.out
                    clear HA
                    simp only [bellowsref03_Clean.j2] at H
                    by_cases c16 : x50_11 = true
                    · subst c16
                      have H1 : (bellowsref03_Clean.l1 kj11 a0 x5_2 x6_2 (wrap64 (x7_2 + 1))) = some (r1, r2) := by rw [if_pos rfl] at H; exact H
                      clear H
                      have H := H1
                      clear H1
                      have H' := Aside0.mk H
                      clear H
                      go_wp2
                      go_roundg kj11
                      case measure => have := HK1.out; have := HK2.out; have := HJ11.out; omega
                      case rel => exact ⟨(x5_2), (x6_2), (wrap64 (x7_2 + 1)), (by first | rfl | (simp; done) | (simp [*]; done)), (by first | rfl | (simp; done) | (simp [*]; done)), H', ⟨by have := HK1.out; have := HK2.out; have := HJ11.out; omega⟩, ⟨by (with_reducible repeat (first | apply Kd.R_alloc | apply Kd.R_drewN | apply Kd.R_drew)); exact HO_5.out⟩, ⟨by repeat (first | (with_reducible first | exact HB.out | apply below_alloc | apply pw_below_drewN | apply below_drew1) | exact HB.out)⟩⟩
                    · replace c16 := Bool.eq_false_iff.mpr c16
                      subst c16
                      have H1 : (if 0 ≤ x6_2 then (if x6_2 ≤ x7_2 then (if x7_2 ≤ (a0.size : Int) then (if (a0.extract (x6_2 : Int).toNat (x7_2 : Int).toNat).toList = ([] : List UInt8) then (bellowsref03_Clean.j3 kj11 a0 x5_2 (wrap64 (x7_2 + 1)) x7_2 (a0.extract (x6_2 : Int).toNat (x7_2 : Int).toNat) true) else (bellowsref03_Clean.j3 kj11 a0 x5_2 (wrap64 (x7_2 + 1)) x7_2 (a0.extract (x6_2 : Int).toNat (x7_2 : Int).toNat) ((a0.extract (x6_2 : Int).toNat (x7_2 : Int).toNat).toList == ([46] : List UInt8)))) else (none)) else (none)) else (none)) = some (r1, r2) := by rw [if_neg (show ¬ (false = true) by decide)] at H; exact H
                      clear H
                      have H := H1
                      clear H1
                      by_cases c17 : 0 ≤ x6_2
                      · rw [if_pos c17] at H
                        have c17b0 := eq_true c17
                        have c17b1 : decide (0 ≤ x6_2) = true := decide_eq_true c17
                        clear c17
                        by_cases c18 : x6_2 ≤ x7_2
                        · rw [if_pos c18] at H
                          have c18b0 := eq_true c18
                          have c18b1 : decide (x6_2 ≤ x7_2) = true := decide_eq_true c18
                          clear c18
                          by_cases c19 : x7_2 ≤ (a0.size : Int)
                          · rw [if_pos c19] at H
                            have c19b0 := eq_true c19
                            have c19b1 : decide (x7_2 ≤ (a0.size : Int)) = true := decide_eq_true c19
                            clear c19
                            have HC20 := Aside0.mk H
                            clear H
                            go_upto_region 16 with (fail)
                            go_cut [62] (fun v62 wc => ∃ (kq : Nat) (x62_19 : Bool), v62 = .bool x62_19 ∧ Aside0 (bellowsref03_Clean.j3 kq a0 x5_2 (wrap64 (x7_2 + 1)) x7_2 (a0.extract (x6_2 : Int).toNat (x7_2 : Int).toNat) x62_19 = some (r1, r2)) ∧ Aside0 (kq ≤ kj11) ∧ Aside0 (Kd.R Kd.string 9 wc w.heap.size (fun _ => True) u5 x5_2) ∧ Aside0 (Below w.heap.size w wc))
                            case first =>
                              have H := HC20.out
                              clear HC20
                              by_cases c21 : (a0.extract (x6_2 : Int).toNat (x7_2 : Int).toNat).toList = ([] : List UInt8)
                              · rw [if_pos c21] at H
                                have c21b0 : ((a0.extract (x6_2 : Int).toNat (x7_2 : Int).toNat).toList == ([] : List UInt8)) = true := beq_iff_eq.mpr c21
                                have c21b1 : ((a0.extract (x6_2 : Int).toNat (x7_2 : Int).toNat).toList != ([] : List UInt8)) = false := bne_eq_false_iff_eq.mpr c21
                                clear c21
                                (first | rw [c21b0] | (simp only [i64_w, i32_w]; rw [c21b0]) | skip)
                                have H' := Aside0.mk H
                                clear H
                                go_wp2
                                go_meet
                                case rel => exact ⟨_, (true), (by first | rfl | (simp; done) | (simp [*]; done)), H', ⟨by have := HK1.out; have := HK2.out; have := HJ11.out; first | omega | exact Nat.le_refl _⟩, ⟨by (with_reducible repeat (first | apply Kd.R_alloc | apply Kd.R_drewN | apply Kd.R_drew)); exact HO_5.out⟩, ⟨by repeat (first | (with_reducible first | exact HB.out | apply below_alloc | apply pw_below_drewN | apply below_drew1) | exact HB.out)⟩⟩
                              · rw [if_neg c21] at H
                                have c21b0 : ((a0.extract (x6_2 : Int).toNat (x7_2 : Int).toNat).toList == ([] : List UInt8)) = false := beq_eq_false_iff_ne.mpr c21
                                have c21b1 : ((a0.extract (x6_2 : Int).toNat (x7_2 : Int).toNat).toList != ([] : List UInt8)) = true := bne_iff_ne.mpr c21
                                (first | rw [c21b0] | (simp only [i64_w, i32_w]; rw [c21b0]) | skip)
                                have H' := Aside0.mk H
                                clear H
                                go_wp2
                                go_meet
                                case rel => exact ⟨_, (((a0.extract (x6_2 : Int).toNat (x7_2 : Int).toNat).toList == ([46] : List UInt8))), (by first | rfl | (simp; done) | (simp [*]; done)), H', ⟨by have := HK1.out; have := HK2.out; have := HJ11.out; first | omega | exact Nat.le_refl _⟩, ⟨by (with_reducible repeat (first | apply Kd.R_alloc | apply Kd.R_drewN | apply Kd.R_drew)); exact HO_5.out⟩, ⟨by repeat (first | (with_reducible first | exact HB.out | apply below_alloc | apply pw_below_drewN | apply below_drew1) | exact HB.out)⟩⟩
                            case rest =>
                              clear HC20
                              try clear c1
                              try clear p1
                              try clear q1
                              try clear hx1
                              try clear c2
                              try clear c2b0
                              try clear c2b1
                              try clear p2
                              try clear c3
                              try clear c3b0
                              try clear c4
                              try clear c4b0
                              try clear p5
                              try clear q5
                              try clear hx5
                              try clear p6
                              try clear c7
                              try clear c8
                              try clear c8b0
                              try clear c8b1
                              try clear p9
                              try clear q9
                              try clear hx9
                              try clear c10
                              try clear c10b0
                              try clear c10b1
                              try clear c11
                              try clear c11b0
                              try clear c13
                              try clear c13b0
                              try clear c14
                              try clear c14b0
                              try clear p15
                              try clear q15
                              try clear hx15
                              try clear c16
                              try clear c17
                              try clear c17b0
                              try clear c17b1
                              try clear c18
                              try clear c18b0
                              try clear c18b1
                              try clear c19
                              try clear c19b0
                              try clear c19b1
                              try clear c21
                              try clear c21b0
                              try clear c21b1
                              try clear p1
                              try clear p15
                              try clear p2
                              try clear p5
                              try clear p6
                              try clear p9
                              try clear q1
                              try clear q15
                              try clear q5
                              try clear q9
                              obtain ⟨kq, x62_19, rfl, HA, HJ19, HO_5, HB⟩ := hcut
                              cases kq with
                              | zero => exact absurd HA.out (by simp [bellowsref03_Clean.j3])
                              | succ kj19 =>
                                have H := HA.out
                                clear HA
                                simp only [bellowsref03_Clean.j3] at H
                                by_cases c22 : x62_19 = true
                                · subst c22
                                  have H1 : (bellowsref03_Clean.l1 kj19 a0 x5_2 (wrap64 (x7_2 + 1)) (wrap64 (x7_2 + 1))) = some (r1, r2) := by rw [if_pos rfl] at H; exact H
                                  clear H
                                  have H := H1
                                  clear H1
                                  have H' := Aside0.mk H
                                  clear H
                                  go_wp2
                                  go_roundg kj19
                                  case measure => have := HK1.out; have := HK2.out; have := HJ11.out; have := HJ19.out; omega
                                  case rel => exact ⟨(x5_2), ((wrap64 (x7_2 + 1))), (wrap64 (x7_2 + 1)), (by first | rfl | (simp; done) | (simp [*]; done)), (by first | rfl | (simp; done) | (simp [*]; done)), H', ⟨by have := HK1.out; have := HK2.out; have := HJ11.out; have := HJ19.out; omega⟩, ⟨by (with_reducible repeat (first | apply Kd.R_alloc | apply Kd.R_drewN | apply Kd.R_drew)); exact HO_5.out⟩, ⟨by repeat (first | (with_reducible first | exact HB.out | apply below_alloc | apply pw_below_drewN | apply below_drew1) | exact HB.out)⟩⟩
                                · replace c22 := Bool.eq_false_iff.mpr c22
                                  subst c22
                                  have H1 : (if (a0.extract (x6_2 : Int).toNat (x7_2 : Int).toNat).toList = ([46, 46] : List UInt8) then (bellowsref03_Clean.j4 kj19 a0 x5_2 (wrap64 (x7_2 + 1)) x7_2 (a0.extract (x6_2 : Int).toNat (x7_2 : Int).toNat) ((x5_2.length : Int) == 0)) else (bellowsref03_Clean.j4 kj19 a0 x5_2 (wrap64 (x7_2 + 1)) x7_2 (a0.extract (x6_2 : Int).toNat (x7_2 : Int).toNat) false)) = some (r1, r2) := by rw [if_neg (show ¬ (false = true) by decide)] at H; exact H
                                  clear H
                                  have H := H1
                                  clear H1
                                  have HC23 := Aside0.mk H
                                  clear H
                                  go_upto_region 17 with (fail)
                                  go_cut [69] (fun v69 wc => ∃ (kq : Nat) (x69_22 : Bool), v69 = .bool x69_22 ∧ Aside0 (bellowsref03_Clean.j4 kq a0 x5_2 (wrap64 (x7_2 + 1)) x7_2 (a0.extract (x6_2 : Int).toNat (x7_2 : Int).toNat) x69_22 = some (r1, r2)) ∧ Aside0 (kq ≤ kj19) ∧ Aside0 (Kd.R Kd.string 9 wc w.heap.size (fun _ => True) u5 x5_2) ∧ Aside0 (Below w.heap.size w wc))
                                  case first =>
                                    have H := HC23.out
                                    clear HC23
                                    by_cases c24 : (a0.extract (x6_2 : Int).toNat (x7_2 : Int).toNat).toList = ([46, 46] : List UInt8)
                                    · rw [if_pos c24] at H
                                      have c24b0 : ((a0.extract (x6_2 : Int).toNat (x7_2 : Int).toNat).toList == ([46, 46] : List UInt8)) = true := beq_iff_eq.mpr c24
                                      have c24b1 : ((a0.extract (x6_2 : Int).toNat (x7_2 : Int).toNat).toList != ([46, 46] : List UInt8)) = false := bne_eq_false_iff_eq.mpr c24
                                      clear c24
                                      (first | rw [c24b0] | (simp only [i64_w, i32_w]; rw [c24b0]) | skip)
                                      have H' := Aside0.mk H
                                      clear H
                                      obtain ⟨Ao25, co25, eo25⟩ := Kd.R_slice HO_5.out
                                      subst eo25
                                      go_wp2
                                      go_meet
                                      case rel => exact ⟨_, (((x5_2.length : Int) == 0)), (by first | rfl | (simp; done) | (simp [*]; done)), H', ⟨by have := HK1.out; have := HK2.out; have := HJ11.out; have := HJ19.out; first | omega | exact Nat.le_refl _⟩, ⟨by (with_reducible repeat (first | apply Kd.R_alloc | apply Kd.R_drewN | apply Kd.R_drew)); exact HO_5.out⟩, ⟨by repeat (first | (with_reducible first | exact HB.out | apply below_alloc | apply pw_below_drewN | apply below_drew1) | exact HB.out)⟩⟩
                                    · rw [if_neg c24] at H
                                      have c24b0 : ((a0.extract (x6_2 : Int).toNat (x7_2 : Int).toNat).toList == ([46, 46] : List UInt8)) = false := beq_eq_false_iff_ne.mpr c24
                                      have c24b1 : ((a0.extract (x6_2 : Int).toNat (x7_2 : Int).toNat).toList != ([46, 46] : List UInt8)) = true := bne_iff_ne.mpr c24
                                      (first | rw [c24b0] | (simp only [i64_w, i32_w]; rw [c24b0]) | skip)
                                      have H' := Aside0.mk H
                                      clear H
                                      go_wp2
                                      go_meet
                                      case rel => exact ⟨_, (false), (by first | rfl | (simp; done) | (simp [*]; done)), H', ⟨by have := HK1.out; have := HK2.out; have := HJ11.out; have := HJ19.out; first | omega | exact Nat.le_refl _⟩, ⟨by (with_reducible repeat (first | apply Kd.R_alloc | apply Kd.R_drewN | apply Kd.R_drew)); exact HO_5.out⟩, ⟨by repeat (first | (with_reducible first | exact HB.out | apply below_alloc | apply pw_below_drewN | apply below_drew1) | exact HB.out)⟩⟩
                                  case rest =>
                                    clear HC23
                                    try clear c1
                                    try clear p1
                                    try clear q1
                                    try clear hx1
                                    try clear c2
                                    try clear c2b0
                                    try clear c2b1
                                    try clear p2
                                    try clear c3
                                    try clear c3b0
                                    try clear c4
                                    try clear c4b0
                                    try clear p5
                                    try clear q5
                                    try clear hx5
                                    try clear p6
                                    try clear c7
                                    try clear c8
                                    try clear c8b0
                                    try clear c8b1
                                    try clear p9
                                    try clear q9
                                    try clear hx9
                                    try clear c10
                                    try clear c10b0
                                    try clear c10b1
                                    try clear c11
                                    try clear c11b0
                                    try clear c13
                                    try clear c13b0
                                    try clear c14
                                    try clear c14b0
                                    try clear p15
                                    try clear q15
                                    try clear hx15
                                    try clear c16
                                    try clear c17
                                    try clear c17b0
                                    try clear c17b1
                                    try clear c18
                                    try clear c18b0
                                    try clear c18b1
                                    try clear c19
                                    try clear c19b0
                                    try clear c19b1
                                    try clear c21
                                    try clear c21b0
                                    try clear c21b1
                                    try clear c22
                                    try clear c24
                                    try clear c24b0
                                    try clear c24b1
                                    try clear p1
                                    try clear p15
                                    try clear p2
                                    try clear p5
                                    try clear p6
                                    try clear p9
                                    try clear q1
                                    try clear q15
                                    try clear q5
                                    try clear q9
                                    obtain ⟨kq, x69_22, rfl, HA, HJ22, HO_5, HB⟩ := hcut
                                    cases kq with
                                    | zero => exact absurd HA.out (by simp [bellowsref03_Clean.j4])
                                    | succ kj22 =>
                                      have H := HA.out
                                      clear HA
                                      simp only [bellowsref03_Clean.j4] at H
                                      by_cases c26 : x69_22 = true
                                      · subst c26
                                        have H1 : (some ((⟨#[]⟩ : ByteArray), 5)) = some (r1, r2) := by rw [if_pos rfl] at H; exact H
                                        clear H
                                        have H := H1
                                        clear H1
                                        simp only [Option.some.injEq, Prod.mk.injEq] at H
                                        obtain ⟨rfl, rfl⟩ := H
                                        go_wp2
                                        go_ret2
                                        exact ⟨by first | rfl | (simp [errW_none, errW_some] <;> rfl) | (simp [*, errW_none, errW_some] <;> rfl), by repeat (first | (with_reducible first | exact HB.out | apply below_alloc | apply pw_below_drewN | apply below_drew1) | exact HB.out)⟩
                                      · replace c26 := Bool.eq_false_iff.mpr c26
                                        subst c26
                                        have H1 : (if (a0.extract (x6_2 : Int).toNat (x7_2 : Int).toNat).toList = ([46, 46] : List UInt8) then (if 0 ≤ (wrap64 ((x5_2.length : Int) - 1)) then (if (wrap64 ((x5_2.length : Int) - 1)) ≤ (x5_2.length : Int) then (bellowsref03_Clean.l1 kj22 a0 (x5_2.take ((wrap64 ((x5_2.length : Int) - 1)) : Int).toNat) (wrap64 (x7_2 + 1)) (wrap64 (x7_2 + 1))) else (none)) else (none)) else (if x5_2.length < 8796093022208 then (bellowsref03_Clean.l1 kj22 a0 (x5_2 ++ [(a0.extract (x6_2 : Int).toNat (x7_2 : Int).toNat)]) (wrap64 (x7_2 + 1)) (wrap64 (x7_2 + 1))) else (none))) = some (r1, r2) := by rw [if_neg (show ¬ (false = true) by decide)] at H; exact H
                                        clear H
                                        have H := H1
                                        clear H1
                                        by_cases c27 : (a0.extract (x6_2 : Int).toNat (x7_2 : Int).toNat).toList = ([46, 46] : List UInt8)
                                        · rw [if_pos c27] at H
                                          have c27b0 : ((a0.extract (x6_2 : Int).toNat (x7_2 : Int).toNat).toList == ([46, 46] : List UInt8)) = true := beq_iff_eq.mpr c27
                                          have c27b1 : ((a0.extract (x6_2 : Int).toNat (x7_2 : Int).toNat).toList != ([46, 46] : List UInt8)) = false := bne_eq_false_iff_eq.mpr c27
                                          clear c27
                                          obtain ⟨ji28, hji28⟩ : ∃ j_ : Int, (wrap64 ((x5_2.length : Int) - 1)) = j_ := ⟨_, rfl⟩
                                          replace H : (if 0 ≤ (ji28) then (if (ji28) ≤ (x5_2.length : Int) then (bellowsref03_Clean.l1 kj22 a0 (x5_2.take ((ji28) : Int).toNat) (wrap64 (x7_2 + 1)) (wrap64 (x7_2 + 1))) else (none)) else (none)) = some (r1, r2) := by first | (rw [hji28] at H; exact H) | (simp only [hji28] at H ⊢; exact H)
                                          have hji28w : (IntKind.i64.wrap ((x5_2.length : Int) - 1)) = ji28 := (i64_w _).trans hji28
                                          by_cases c29 : 0 ≤ (ji28)
                                          · rw [if_pos c29] at H
                                            have c29b0 := eq_true c29
                                            have c29b1 : decide (0 ≤ (ji28)) = true := decide_eq_true c29
                                            clear c29
                                            by_cases c30 : (ji28) ≤ (x5_2.length : Int)
                                            · rw [if_pos c30] at H
                                              have c30b0 := eq_true c30
                                              have c30b1 : decide ((ji28) ≤ (x5_2.length : Int)) = true := decide_eq_true c30
                                              clear c30
                                              obtain ⟨y109, hy109⟩ : ∃ y_ : List ByteArray, y_ = (x5_2.take ((ji28) : Int).toNat) := ⟨_, rfl⟩
                                              replace H : (bellowsref03_Clean.l1 kj22 a0 y109 (wrap64 (x7_2 + 1)) (wrap64 (x7_2 + 1))) = some (r1, r2) := by first | (rw [hy109]; with_reducible exact H) | (have H2_ := (Option.bind_some _ _).symm.trans H; rw [hy109]; with_reducible exact H2_) | (have H2_ := (Option.bind_some _ _).symm.trans H; with_reducible exact H2_) | with_reducible exact H | (rw [hy109]; exact H) | exact H
                                              have Ny109 := Aside0.mk hy109
                                              clear hy109
                                              have H' := Aside0.mk H
                                              clear H
                                              obtain ⟨Ao31, co31, eo31⟩ := Kd.R_slice HO_5.out
                                              subst eo31
                                              have q32 : ((ji28) : Int) ≤ ((x5_2.length : Int) : Int) := of_decide_eq_true (by first | (with_reducible assumption) | assumption)
                                              obtain ⟨i032, hi032, _, hsz32, _⟩ := info_parts info9
                                              have hcut32 := cut_to (P := Tryd.prog) 22 9 .i64 Tryd.underlying22 hi032 Ao31 x5_2.length co31 (ji28) (of_decide_eq_true (by first | (with_reducible assumption) | assumption)) q32 (Kd.R_reads' HO_5.out).2.1
                                              have hr32 := Kd.R_take (m := ((ji28) : Int).toNat) HO_5.out (by omega)
                                              have hy32 : y109.length = ((ji28) : Int).toNat := (by rw [Ny109.out, List.length_take]; omega)
                                              rw [← Ny109.out] at hr32
                                              rw [← hy32] at hr32 hcut32
                                              clear hy32 hi032 hsz32 HO_5
                                              have HO111 := Aside0.mk hr32
                                              clear hr32
                                              replace q32 := eq_true q32
                                              go_wp2
                                              go_roundg kj22
                                              case measure => have := HK1.out; have := HK2.out; have := HJ11.out; have := HJ19.out; have := HJ22.out; omega
                                              case rel => exact ⟨(y109), ((wrap64 (x7_2 + 1))), (wrap64 (x7_2 + 1)), (by first | rfl | (simp; done) | (simp [*]; done)), (by first | rfl | (simp; done) | (simp [*]; done)), H', ⟨by have := HK1.out; have := HK2.out; have := HJ11.out; have := HJ19.out; have := HJ22.out; omega⟩, ⟨by (with_reducible repeat (first | apply Kd.R_alloc | apply Kd.R_drewN | apply Kd.R_drew)); exact HO111.out⟩, ⟨by repeat (first | (with_reducible first | exact HB.out | apply below_alloc | apply pw_below_drewN | apply below_drew1) | exact HB.out)⟩⟩
                                            · rw [if_neg c30] at H
                                              exact absurd H (by simp)
                                          · rw [if_neg c29] at H
                                            exact absurd H (by simp)
                                        · rw [if_neg c27] at H
                                          have c27b0 : ((a0.extract (x6_2 : Int).toNat (x7_2 : Int).toNat).toList == ([46, 46] : List UInt8)) = false := beq_eq_false_iff_ne.mpr c27
                                          have c27b1 : ((a0.extract (x6_2 : Int).toNat (x7_2 : Int).toNat).toList != ([46, 46] : List UInt8)) = true := bne_iff_ne.mpr c27
                                          by_cases c33 : x5_2.length < 8796093022208
                                          · rw [if_pos c33] at H
                                            have LMc33 := Aside0.mk c33
                                            clear c33
                                            obtain ⟨y112, hy112⟩ : ∃ y_ : List ByteArray, y_ = (x5_2 ++ [(a0.extract (x6_2 : Int).toNat (x7_2 : Int).toNat)]) := ⟨_, rfl⟩
                                            replace H : (bellowsref03_Clean.l1 kj22 a0 y112 (wrap64 (x7_2 + 1)) (wrap64 (x7_2 + 1))) = some (r1, r2) := by first | (rw [hy112]; with_reducible exact H) | (have H2_ := (Option.bind_some _ _).symm.trans H; rw [hy112]; with_reducible exact H2_) | (have H2_ := (Option.bind_some _ _).symm.trans H; with_reducible exact H2_) | with_reducible exact H | (rw [hy112]; exact H) | exact H
                                            have Ny112 := Aside0.mk hy112
                                            clear hy112
                                            have H' := Aside0.mk H
                                            clear H
                                            go_wp2_with (first | ((with_reducible refine gate_builtin (b := .append) (xs := #[.tmp 77, .tmp 79]) rfl ?_); (try (refine gate_guard (by rfl) ?_; dsimp only)); at_builtin; refine Kd.R_append Kd.string (w0 := w) w.heap.size rfl (.tmp 77) (.tmp 79) 22 9 (.string ⟨#[]⟩) 16 rfl Tryd.underlying22 info9 rfl (by decide) (by omega) u5 x5_2 (a0.extract (x6_2 : Int).toNat (x7_2 : Int).toNat) [.string (a0.extract (x6_2 : Int).toNat (x7_2 : Int).toNat)] (fun _ => True) (fun _ => False) rfl rfl ?aP (fun _ hk => hk.elim) ?aF ?aO ?aB ?aS ?aL ?_; (case aP => exact rfl); (case aB => exact (by repeat (first | (with_reducible first | exact HB.out | apply below_alloc | apply pw_below_drewN | apply below_drew1) | exact HB.out))); (case aF => exact (fun _ _ => trivial)); (case aO => exact (by (with_reducible repeat (first | apply Kd.R_alloc | apply Kd.R_drewN | apply Kd.R_drew)); exact HO_5.out)); (case aS => exact (below_size (by repeat (first | (with_reducible first | exact HB.out | apply below_alloc | apply pw_below_drewN | apply below_drew1) | exact HB.out)))); (case aL => have := LMc33.out; omega); intro v113 w34 ho hb hg hat; rw [← Ny112.out] at ho; have n0_ := Aside0.mk (hb); have n1_ := Aside0.mk (ho); clear HB; clear HO_5; have HB := n0_; have HO114 := n1_; clear n0_ n1_; clear ho hb hg hat))
                                            go_roundg kj22
                                            case measure => have := HK1.out; have := HK2.out; have := HJ11.out; have := HJ19.out; have := HJ22.out; omega
                                            case rel => exact ⟨(y112), ((wrap64 (x7_2 + 1))), (wrap64 (x7_2 + 1)), (by first | rfl | (simp; done) | (simp [*]; done)), (by first | rfl | (simp; done) | (simp [*]; done)), H', ⟨by have := HK1.out; have := HK2.out; have := HJ11.out; have := HJ19.out; have := HJ22.out; omega⟩, ⟨by (with_reducible repeat (first | apply Kd.R_alloc | apply Kd.R_drewN | apply Kd.R_drew)); exact HO114.out⟩, ⟨by repeat (first | (with_reducible first | exact HB.out | apply below_alloc | apply pw_below_drewN | apply below_drew1) | exact HB.out)⟩⟩
                                          · rw [if_neg c33] at H
                                            exact absurd H (by simp)
                          · rw [if_neg c19] at H
                            exact absurd H (by simp)
                        · rw [if_neg c18] at H
                          exact absurd H (by simp)
                      · rw [if_neg c17] at H
                        exact absurd H (by simp)
              · rw [if_neg c11] at H
                have c11b0 : decide (x7_2 ≤ (a0.size : Int)) = false := decide_eq_false c11
                clear c11
                have H' := Aside0.mk H
                clear H
                go_wp2
                go_loopg [9, 10] k2 (fun kq v9 v10 w' => ∃ (x9_3 : ByteArray) (x10_3 : Int), v9 = .string x9_3 ∧ v10 = .int .i64 x10_3 ∧ Aside0 (bellowsref03_Clean.l2 kq x5_2 x9_3 x10_3 = some (r1, r2)) ∧ Aside0 (kq ≤ k2) ∧ Aside0 (Kd.R Kd.string 9 w' w.heap.size (fun _ => True) u5 x5_2) ∧ Aside0 (Below w.heap.size w w'))
                case atStart => exact ⟨((⟨#[]⟩ : ByteArray)), (0), (by first | rfl | (simp; done) | (simp [*]; done)), (by first | rfl | (simp; done) | (simp [*]; done)), H', ⟨Nat.le_refl _⟩, ⟨by (with_reducible repeat (first | apply Kd.R_alloc | apply Kd.R_drewN | apply Kd.R_drew)); exact HO_5.out⟩, ⟨by repeat (first | (with_reducible first | exact HB.out | apply below_alloc | apply pw_below_drewN | apply below_drew1) | exact HB.out)⟩⟩
                case round =>
                  clear H'
                  try clear c1
                  try clear p1
                  try clear q1
                  try clear hx1
                  try clear c2
                  try clear c2b0
                  try clear c2b1
                  try clear p2
                  try clear c3
                  try clear c3b0
                  try clear q3
                  try clear c4
                  try clear c4b0
                  try clear p5
                  try clear q5
                  try clear hx5
                  try clear p6
                  try clear c7
                  try clear c8
                  try clear c8b0
                  try clear c8b1
                  try clear p9
                  try clear q9
                  try clear hx9
                  try clear c10
                  try clear c10b0
                  try clear c10b1
                  try clear c11
                  try clear c11b0
                  try clear c13
                  try clear c13b0
                  try clear c14
                  try clear c14b0
                  try clear p15
                  try clear q15
                  try clear hx15
                  try clear c16
                  try clear c17
                  try clear c17b0
                  try clear c17b1
                  try clear c18
                  try clear c18b0
                  try clear c18b1
                  try clear c19
                  try clear c19b0
                  try clear c19b1
                  try clear c21
                  try clear c21b0
                  try clear c21b1
                  try clear c22
                  try clear c24
                  try clear c24b0
                  try clear c24b1
                  try clear c26
                  try clear c27
                  try clear c27b0
                  try clear c27b1
                  try clear c29
                  try clear c29b0
                  try clear c29b1
                  try clear c30
                  try clear c30b0
                  try clear c30b1
                  try clear q32
                  try clear c33
                  try clear p1
                  try clear p15
                  try clear p2
                  try clear p5
                  try clear p6
                  try clear p9
                  try clear q1
                  try clear q15
                  try clear q32
                  try clear q5
                  try clear q9
                  obtain ⟨x9_3, x10_3, rfl, rfl, HA, HK3, HO_5, HB⟩ := hrel
                  cases gk with
                  | zero => exact absurd HA.out (by simp [bellowsref03_Clean.l2])
                  | succ k3 =>
                    have H := HA.out
                    clear HA
                    simp only [bellowsref03_Clean.l2] at H
                    by_cases c35 : x10_3 < (x5_2.length : Int)
                    · rw [if_pos c35] at H
                      have c35b0 : decide (x10_3 < (x5_2.length : Int)) = true := decide_eq_true c35
                      clear c35
                      by_cases c36 : x10_3 > 0
                      · rw [if_pos c36] at H
                        have c36b0 : decide (0 < x10_3) = true := decide_eq_true c36
                        clear c36
                        by_cases c37 : x9_3.size + 1 ≤ 9223372036854775807
                        · rw [if_pos c37] at H
                          have c37b0 := eq_true c37
                          have c37b1 : decide (x9_3.size + 1 ≤ 9223372036854775807) = true := decide_eq_true c37
                          try have c37b2 : (9223372036854775807 < x9_3.size + 1) = False := eq_false (Nat.not_lt.2 c37)
                          by_cases c38 : 0 ≤ x10_3
                          · rw [if_pos c38] at H
                            have c38b0 : decide (0 ≤ x10_3) = true := decide_eq_true c38
                            clear c38
                            by_cases c39 : (x9_3 ++ (⟨#[47]⟩ : ByteArray)).size + (rdOf ByteArray.empty x5_2 x10_3).size ≤ 9223372036854775807
                            · rw [if_pos c39] at H
                              have c39b0 := eq_true c39
                              have c39b1 : decide ((x9_3 ++ (⟨#[47]⟩ : ByteArray)).size + (rdOf ByteArray.empty x5_2 x10_3).size ≤ 9223372036854775807) = true := decide_eq_true c39
                              try have c39b2 : (9223372036854775807 < (x9_3 ++ (⟨#[47]⟩ : ByteArray)).size + (rdOf ByteArray.empty x5_2 x10_3).size) = False := eq_false (Nat.not_lt.2 c39)
                              have H' := Aside0.mk H
                              clear H
                              obtain ⟨Ao40, co40, eo40⟩ := Kd.R_slice HO_5.out
                              subst eo40
                              have p115 : 0 ≤ (x10_3 : Int) := of_decide_eq_true (by first | (with_reducible assumption) | assumption)
                              have q115 : x10_3 < (x5_2.length : Int) := of_decide_eq_true (by first | (with_reducible assumption) | assumption)
                              obtain ⟨ad115, e115, hx115_0⟩ := Kd.at_string (Kd.R_reads' HO_5.out).2.2 x10_3 p115 q115
                              cases e115
                              replace p115 := eq_true p115
                              replace q115 := eq_true q115
                              go_wp2
                              go_roundg k3
                              case measure => have := HK1.out; have := HK2.out; have := HK3.out; omega
                              case rel => exact ⟨((x9_3 ++ (⟨#[47]⟩ : ByteArray)) ++ (rdOf ByteArray.empty x5_2 x10_3)), (wrap64 (x10_3 + 1)), (by first | rfl | (simp; done) | (simp [*]; done)), (by first | rfl | (simp; done) | (simp [*]; done)), H', ⟨by have := HK1.out; have := HK2.out; have := HK3.out; omega⟩, ⟨by (with_reducible repeat (first | apply Kd.R_alloc | apply Kd.R_drewN | apply Kd.R_drew)); exact HO_5.out⟩, ⟨by repeat (first | (with_reducible first | exact HB.out | apply below_alloc | apply pw_below_drewN | apply below_drew1) | exact HB.out)⟩⟩
                            · rw [if_neg c39] at H
                              exact absurd H (by simp)
                          · rw [if_neg c38] at H
                            exact absurd H (by simp)
                        · rw [if_neg c37] at H
                          exact absurd H (by simp)
                      · rw [if_neg c36] at H
                        have c36b0 : decide (0 < x10_3) = false := decide_eq_false c36
                        clear c36
                        by_cases c41 : 0 ≤ x10_3
                        · rw [if_pos c41] at H
                          have c41b0 : decide (0 ≤ x10_3) = true := decide_eq_true c41
                          clear c41
                          by_cases c42 : x9_3.size + (rdOf ByteArray.empty x5_2 x10_3).size ≤ 9223372036854775807
                          · rw [if_pos c42] at H
                            have c42b0 := eq_true c42
                            have c42b1 : decide (x9_3.size + (rdOf ByteArray.empty x5_2 x10_3).size ≤ 9223372036854775807) = true := decide_eq_true c42
                            try have c42b2 : (9223372036854775807 < x9_3.size + (rdOf ByteArray.empty x5_2 x10_3).size) = False := eq_false (Nat.not_lt.2 c42)
                            have H' := Aside0.mk H
                            clear H
                            obtain ⟨Ao43, co43, eo43⟩ := Kd.R_slice HO_5.out
                            subst eo43
                            have p116 : 0 ≤ (x10_3 : Int) := of_decide_eq_true (by first | (with_reducible assumption) | assumption)
                            have q116 : x10_3 < (x5_2.length : Int) := of_decide_eq_true (by first | (with_reducible assumption) | assumption)
                            obtain ⟨ad116, e116, hx116_0⟩ := Kd.at_string (Kd.R_reads' HO_5.out).2.2 x10_3 p116 q116
                            cases e116
                            replace p116 := eq_true p116
                            replace q116 := eq_true q116
                            go_wp2
                            go_roundg k3
                            case measure => have := HK1.out; have := HK2.out; have := HK3.out; omega
                            case rel => exact ⟨(x9_3 ++ (rdOf ByteArray.empty x5_2 x10_3)), (wrap64 (x10_3 + 1)), (by first | rfl | (simp; done) | (simp [*]; done)), (by first | rfl | (simp; done) | (simp [*]; done)), H', ⟨by have := HK1.out; have := HK2.out; have := HK3.out; omega⟩, ⟨by (with_reducible repeat (first | apply Kd.R_alloc | apply Kd.R_drewN | apply Kd.R_drew)); exact HO_5.out⟩, ⟨by repeat (first | (with_reducible first | exact HB.out | apply below_alloc | apply pw_below_drewN | apply below_drew1) | exact HB.out)⟩⟩
                          · rw [if_neg c42] at H
                            exact absurd H (by simp)
                        · rw [if_neg c41] at H
                          exact absurd H (by simp)
                    · rw [if_neg c35] at H
                      have c35b0 : decide (x10_3 < (x5_2.length : Int)) = false := decide_eq_false c35
                      clear c35
                      by_cases c44 : x9_3.toList = ([] : List UInt8)
                      · rw [if_pos c44] at H
                        have c44b0 : (x9_3.toList == ([] : List UInt8)) = true := beq_iff_eq.mpr c44
                        have c44b1 : (x9_3.toList != ([] : List UInt8)) = false := bne_eq_false_iff_eq.mpr c44
                        clear c44
                        simp only [Option.some.injEq, Prod.mk.injEq] at H
                        obtain ⟨rfl, rfl⟩ := H
                        obtain ⟨Ao45, co45, eo45⟩ := Kd.R_slice HO_5.out
                        subst eo45
                        go_wp2
                        go_ret2
                        exact ⟨by first | rfl | (simp [errW_none, errW_some] <;> rfl) | (simp [*, errW_none, errW_some] <;> rfl), by repeat (first | (with_reducible first | exact HB.out | apply below_alloc | apply pw_below_drewN | apply below_drew1) | exact HB.out)⟩
                      · rw [if_neg c44] at H
                        have c44b0 : (x9_3.toList == ([] : List UInt8)) = false := beq_eq_false_iff_ne.mpr c44
                        have c44b1 : (x9_3.toList != ([] : List UInt8)) = true := bne_iff_ne.mpr c44
                        by_cases c46 : (x9_3.size : Int) > 100
                        · rw [if_pos c46] at H
                          have c46b0 : decide (100 < (x9_3.size : Int)) = true := decide_eq_true c46
                          have c46b1 : decide (100 < x9_3.size) = true := decide_eq_true (by omega)
                          clear c46
                          simp only [Option.some.injEq, Prod.mk.injEq] at H
                          obtain ⟨rfl, rfl⟩ := H
                          obtain ⟨Ao47, co47, eo47⟩ := Kd.R_slice HO_5.out
                          subst eo47
                          go_wp2
                          go_ret2
                          exact ⟨by first | rfl | (simp [errW_none, errW_some] <;> rfl) | (simp [*, errW_none, errW_some] <;> rfl), by repeat (first | (with_reducible first | exact HB.out | apply below_alloc | apply pw_below_drewN | apply below_drew1) | exact HB.out)⟩
                        · rw [if_neg c46] at H
                          have c46b0 : decide (100 < (x9_3.size : Int)) = false := decide_eq_false c46
                          have c46b1 : decide (100 < x9_3.size) = false := decide_eq_false (by omega)
                          clear c46
                          simp only [Option.some.injEq, Prod.mk.injEq] at H
                          obtain ⟨rfl, rfl⟩ := H
                          obtain ⟨Ao48, co48, eo48⟩ := Kd.R_slice HO_5.out
                          subst eo48
                          go_wp2
                          go_ret2
                          exact ⟨by first | rfl | (simp [errW_none, errW_some] <;> rfl) | (simp [*, errW_none, errW_some] <;> rfl), by repeat (first | (with_reducible first | exact HB.out | apply below_alloc | apply pw_below_drewN | apply below_drew1) | exact HB.out)⟩

end Go.Proofs.YtaocdnebglnkeaaDoor.P
