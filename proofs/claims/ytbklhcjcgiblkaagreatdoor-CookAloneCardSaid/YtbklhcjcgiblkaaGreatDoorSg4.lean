/- Laid together by wip/tools/shake.py from texts of this claim: PBellowsref03Clean0, PBellowsref03Right0, PathRefD, PBellowsref13In0, PBellowsref14Print0, PBellowsref15Hex0, PBellowsref15Include0, PBellowsref15Words0, PBellowsref01Hash0, CkRefA, CkCook1, CkCook, CkAwake, PBellowslaw15Of0, PBellowslaw15Light0, CkLawA. -/
import Derived.Test.YtbklhcjcgiblkaaGreatDoorSg3
import Derived.ChangeSlices
import Derived.ChangeArms
section
namespace Go.Proofs.YtbklhcjcgiblkaaGreatDoor.P
open Go.RowKit Go.Proofs.YtbklhcjcgiblkaaGreatDoorW.PrintWords Go.Proofs.YtbklhcjcgiblkaaGreatDoorW.PrintLast Go.Proofs.YtbklhcjcgiblkaaGreatDoorW.PrintMore
attribute [local go_sem] max2_int min2_int max_two min_two max_three min_three max_four min_four
set_option linter.unusedVariables false
set_option linter.unusedSimpArgs false
mutual
def bellowsref03_Clean.l0 : Nat → ByteArray → Int → Option (ByteArray × Int)
  | 0, _, _ => none
  | k + 1, x0, x4 => if x4 < (x0.size : Int) then (if 0 ≤ x4 then ((bellowsref03_plain.f (bt x0 x4)).bind fun t118 => (if t118 = true then (if x4 = 0 then (if (bt x0 x4) = 47 then (some ((⟨#[]⟩ : ByteArray), 5)) else (bellowsref03_Clean.l0 k x0 (wrap64 (x4 + 1)))) else (bellowsref03_Clean.l0 k x0 (wrap64 (x4 + 1)))) else (some ((⟨#[]⟩ : ByteArray), 5)))) else (none)) else (bellowsref03_Clean.l1 k x0 ([] : List ByteArray) 0 0)
def bellowsref03_Clean.l1 : Nat → ByteArray → List ByteArray → Int → Int → Option (ByteArray × Int)
  | 0, _, _, _, _ => none
  | k + 1, x0, x5, x6, x7 => if x7 ≤ (x0.size : Int) then (if x7 < (x0.size : Int) then (if 0 ≤ x7 then (bellowsref03_Clean.j2 k x0 x5 x6 x7 ((bt x0 x7) != 47)) else (none)) else (bellowsref03_Clean.j2 k x0 x5 x6 x7 false)) else (bellowsref03_Clean.l2 k x5 (⟨#[]⟩ : ByteArray) 0)
def bellowsref03_Clean.j2 : Nat → ByteArray → List ByteArray → Int → Int → Bool → Option (ByteArray × Int)
  | 0, _, _, _, _, _ => none
  | k + 1, x0, x5, x6, x7, x50 => if x50 = true then (bellowsref03_Clean.l1 k x0 x5 x6 (wrap64 (x7 + 1))) else (if 0 ≤ x6 then (if x6 ≤ x7 then (if x7 ≤ (x0.size : Int) then (if (x0.extract (x6 : Int).toNat (x7 : Int).toNat).toList = ([] : List UInt8) then (bellowsref03_Clean.j3 k x0 x5 (wrap64 (x7 + 1)) x7 (x0.extract (x6 : Int).toNat (x7 : Int).toNat) true) else (bellowsref03_Clean.j3 k x0 x5 (wrap64 (x7 + 1)) x7 (x0.extract (x6 : Int).toNat (x7 : Int).toNat) ((x0.extract (x6 : Int).toNat (x7 : Int).toNat).toList == ([46] : List UInt8)))) else (none)) else (none)) else (none))
def bellowsref03_Clean.j3 : Nat → ByteArray → List ByteArray → Int → Int → ByteArray → Bool → Option (ByteArray × Int)
  | 0, _, _, _, _, _, _ => none
  | k + 1, x0, x5, x6, x7, x8, x62 => if x62 = true then (bellowsref03_Clean.l1 k x0 x5 x6 (wrap64 (x7 + 1))) else (if x8.toList = ([46, 46] : List UInt8) then (bellowsref03_Clean.j4 k x0 x5 x6 x7 x8 ((x5.length : Int) == 0)) else (bellowsref03_Clean.j4 k x0 x5 x6 x7 x8 false))
def bellowsref03_Clean.j4 : Nat → ByteArray → List ByteArray → Int → Int → ByteArray → Bool → Option (ByteArray × Int)
  | 0, _, _, _, _, _, _ => none
  | k + 1, x0, x5, x6, x7, x8, x69 => if x69 = true then (some ((⟨#[]⟩ : ByteArray), 5)) else (if x8.toList = ([46, 46] : List UInt8) then (if 0 ≤ (wrap64 ((x5.length : Int) - 1)) then (if (wrap64 ((x5.length : Int) - 1)) ≤ (x5.length : Int) then (bellowsref03_Clean.l1 k x0 (x5.take ((wrap64 ((x5.length : Int) - 1)) : Int).toNat) x6 (wrap64 (x7 + 1))) else (none)) else (none)) else (if x5.length < 8796093022208 then (bellowsref03_Clean.l1 k x0 (x5 ++ [x8]) x6 (wrap64 (x7 + 1))) else (none)))
def bellowsref03_Clean.l2 : Nat → List ByteArray → ByteArray → Int → Option (ByteArray × Int)
  | 0, _, _, _ => none
  | k + 1, x5, x9, x10 => if x10 < (x5.length : Int) then (if x10 > 0 then (if x9.size + 1 ≤ 9223372036854775807 then (if 0 ≤ x10 then (if (x9 ++ (⟨#[47]⟩ : ByteArray)).size + (rdOf ByteArray.empty x5 x10).size ≤ 9223372036854775807 then (bellowsref03_Clean.l2 k x5 ((x9 ++ (⟨#[47]⟩ : ByteArray)) ++ (rdOf ByteArray.empty x5 x10)) (wrap64 (x10 + 1))) else (none)) else (none)) else (none)) else (if 0 ≤ x10 then (if x9.size + (rdOf ByteArray.empty x5 x10).size ≤ 9223372036854775807 then (bellowsref03_Clean.l2 k x5 (x9 ++ (rdOf ByteArray.empty x5 x10)) (wrap64 (x10 + 1))) else (none)) else (none))) else (if x9.toList = ([] : List UInt8) then (some ((⟨#[]⟩ : ByteArray), 5)) else (if (x9.size : Int) > 100 then (some ((⟨#[]⟩ : ByteArray), 3)) else (some (x9, 0))))
end
def bellowsref03_Clean.f (k : Nat) (a0 : ByteArray) : Option (ByteArray × Int) := if (a0.size : Int) > 1000 then (some ((⟨#[]⟩ : ByteArray), 3)) else (bellowsref03_Clean.l0 k a0 0)
theorem bellowsref03_Clean.mono_l : ∀ k, (∀ y0 y1, LeO (bellowsref03_Clean.l0 k y0 y1) (bellowsref03_Clean.l0 (k + 1) y0 y1)) ∧ (∀ y0 y1 y2 y3, LeO (bellowsref03_Clean.l1 k y0 y1 y2 y3) (bellowsref03_Clean.l1 (k + 1) y0 y1 y2 y3)) ∧ (∀ y0 y1 y2 y3 y4, LeO (bellowsref03_Clean.j2 k y0 y1 y2 y3 y4) (bellowsref03_Clean.j2 (k + 1) y0 y1 y2 y3 y4)) ∧ (∀ y0 y1 y2 y3 y4 y5, LeO (bellowsref03_Clean.j3 k y0 y1 y2 y3 y4 y5) (bellowsref03_Clean.j3 (k + 1) y0 y1 y2 y3 y4 y5)) ∧ (∀ y0 y1 y2 y3 y4 y5, LeO (bellowsref03_Clean.j4 k y0 y1 y2 y3 y4 y5) (bellowsref03_Clean.j4 (k + 1) y0 y1 y2 y3 y4 y5)) ∧ (∀ y0 y1 y2, LeO (bellowsref03_Clean.l2 k y0 y1 y2) (bellowsref03_Clean.l2 (k + 1) y0 y1 y2))
  | 0 => ⟨fun _ _ r h => by simp [bellowsref03_Clean.l0] at h, fun _ _ _ _ r h => by simp [bellowsref03_Clean.l1] at h, fun _ _ _ _ _ r h => by simp [bellowsref03_Clean.j2] at h, fun _ _ _ _ _ _ r h => by simp [bellowsref03_Clean.j3] at h, fun _ _ _ _ _ _ r h => by simp [bellowsref03_Clean.j4] at h, fun _ _ _ r h => by simp [bellowsref03_Clean.l2] at h⟩
  | k + 1 => by
    obtain ⟨ih0, ih1, ih2, ih3, ih4, ih5⟩ := bellowsref03_Clean.mono_l k
    refine ⟨?_, ?_, ?_, ?_, ?_, ?_⟩
    · intro y0 y1
      unfold bellowsref03_Clean.l0
      repeat' first
      | (with_reducible exact ih0 _ _)
      | (with_reducible exact ih1 _ _ _ _)
      | (with_reducible exact ih2 _ _ _ _ _)
      | (with_reducible exact ih3 _ _ _ _ _ _)
      | (with_reducible exact ih4 _ _ _ _ _ _)
      | (with_reducible exact ih5 _ _ _)
      | (with_reducible exact LeO.refl _)
      | (with_reducible exact LeO.none _)
      | (with_reducible refine LeO.ite ?_ ?_)
      | (with_reducible refine LeO.bind ?_ (fun _ => ?_))
      | exact ih0 _ _
      | exact ih1 _ _ _ _
      | exact ih2 _ _ _ _ _
      | exact ih3 _ _ _ _ _ _
      | exact ih4 _ _ _ _ _ _
      | exact ih5 _ _ _
      | exact LeO.none _
      | refine LeO.ite ?_ ?_
      | refine LeO.bind ?_ (fun _ => ?_)
    · intro y0 y1 y2 y3
      unfold bellowsref03_Clean.l1
      repeat' first
      | (with_reducible exact ih0 _ _)
      | (with_reducible exact ih1 _ _ _ _)
      | (with_reducible exact ih2 _ _ _ _ _)
      | (with_reducible exact ih3 _ _ _ _ _ _)
      | (with_reducible exact ih4 _ _ _ _ _ _)
      | (with_reducible exact ih5 _ _ _)
      | (with_reducible exact LeO.refl _)
      | (with_reducible exact LeO.none _)
      | (with_reducible refine LeO.ite ?_ ?_)
      | (with_reducible refine LeO.bind ?_ (fun _ => ?_))
      | exact ih0 _ _
      | exact ih1 _ _ _ _
      | exact ih2 _ _ _ _ _
      | exact ih3 _ _ _ _ _ _
      | exact ih4 _ _ _ _ _ _
      | exact ih5 _ _ _
      | exact LeO.none _
      | refine LeO.ite ?_ ?_
      | refine LeO.bind ?_ (fun _ => ?_)
    · intro y0 y1 y2 y3 y4
      unfold bellowsref03_Clean.j2
      repeat' first
      | (with_reducible exact ih0 _ _)
      | (with_reducible exact ih1 _ _ _ _)
      | (with_reducible exact ih2 _ _ _ _ _)
      | (with_reducible exact ih3 _ _ _ _ _ _)
      | (with_reducible exact ih4 _ _ _ _ _ _)
      | (with_reducible exact ih5 _ _ _)
      | (with_reducible exact LeO.refl _)
      | (with_reducible exact LeO.none _)
      | (with_reducible refine LeO.ite ?_ ?_)
      | (with_reducible refine LeO.bind ?_ (fun _ => ?_))
      | exact ih0 _ _
      | exact ih1 _ _ _ _
      | exact ih2 _ _ _ _ _
      | exact ih3 _ _ _ _ _ _
      | exact ih4 _ _ _ _ _ _
      | exact ih5 _ _ _
      | exact LeO.none _
      | refine LeO.ite ?_ ?_
      | refine LeO.bind ?_ (fun _ => ?_)
    · intro y0 y1 y2 y3 y4 y5
      unfold bellowsref03_Clean.j3
      repeat' first
      | (with_reducible exact ih0 _ _)
      | (with_reducible exact ih1 _ _ _ _)
      | (with_reducible exact ih2 _ _ _ _ _)
      | (with_reducible exact ih3 _ _ _ _ _ _)
      | (with_reducible exact ih4 _ _ _ _ _ _)
      | (with_reducible exact ih5 _ _ _)
      | (with_reducible exact LeO.refl _)
      | (with_reducible exact LeO.none _)
      | (with_reducible refine LeO.ite ?_ ?_)
      | (with_reducible refine LeO.bind ?_ (fun _ => ?_))
      | exact ih0 _ _
      | exact ih1 _ _ _ _
      | exact ih2 _ _ _ _ _
      | exact ih3 _ _ _ _ _ _
      | exact ih4 _ _ _ _ _ _
      | exact ih5 _ _ _
      | exact LeO.none _
      | refine LeO.ite ?_ ?_
      | refine LeO.bind ?_ (fun _ => ?_)
    · intro y0 y1 y2 y3 y4 y5
      unfold bellowsref03_Clean.j4
      repeat' first
      | (with_reducible exact ih0 _ _)
      | (with_reducible exact ih1 _ _ _ _)
      | (with_reducible exact ih2 _ _ _ _ _)
      | (with_reducible exact ih3 _ _ _ _ _ _)
      | (with_reducible exact ih4 _ _ _ _ _ _)
      | (with_reducible exact ih5 _ _ _)
      | (with_reducible exact LeO.refl _)
      | (with_reducible exact LeO.none _)
      | (with_reducible refine LeO.ite ?_ ?_)
      | (with_reducible refine LeO.bind ?_ (fun _ => ?_))
      | exact ih0 _ _
      | exact ih1 _ _ _ _
      | exact ih2 _ _ _ _ _
      | exact ih3 _ _ _ _ _ _
      | exact ih4 _ _ _ _ _ _
      | exact ih5 _ _ _
      | exact LeO.none _
      | refine LeO.ite ?_ ?_
      | refine LeO.bind ?_ (fun _ => ?_)
    · intro y0 y1 y2
      unfold bellowsref03_Clean.l2
      repeat' first
      | (with_reducible exact ih0 _ _)
      | (with_reducible exact ih1 _ _ _ _)
      | (with_reducible exact ih2 _ _ _ _ _)
      | (with_reducible exact ih3 _ _ _ _ _ _)
      | (with_reducible exact ih4 _ _ _ _ _ _)
      | (with_reducible exact ih5 _ _ _)
      | (with_reducible exact LeO.refl _)
      | (with_reducible exact LeO.none _)
      | (with_reducible refine LeO.ite ?_ ?_)
      | (with_reducible refine LeO.bind ?_ (fun _ => ?_))
      | exact ih0 _ _
      | exact ih1 _ _ _ _
      | exact ih2 _ _ _ _ _
      | exact ih3 _ _ _ _ _ _
      | exact ih4 _ _ _ _ _ _
      | exact ih5 _ _ _
      | exact LeO.none _
      | refine LeO.ite ?_ ?_
      | refine LeO.bind ?_ (fun _ => ?_)
theorem bellowsref03_Clean.mono : ∀ a0 k, LeO (bellowsref03_Clean.f k a0) (bellowsref03_Clean.f (k + 1) a0) := by
  intro a0 k
  obtain ⟨ih0, ih1, ih2, ih3, ih4, ih5⟩ := bellowsref03_Clean.mono_l k
  unfold bellowsref03_Clean.f
  repeat' first
      | (with_reducible exact ih0 _ _)
      | (with_reducible exact ih1 _ _ _ _)
      | (with_reducible exact ih2 _ _ _ _ _)
      | (with_reducible exact ih3 _ _ _ _ _ _)
      | (with_reducible exact ih4 _ _ _ _ _ _)
      | (with_reducible exact ih5 _ _ _)
      | (with_reducible exact LeO.refl _)
      | (with_reducible exact LeO.none _)
      | (with_reducible refine LeO.ite ?_ ?_)
      | (with_reducible refine LeO.bind ?_ (fun _ => ?_))
      | exact ih0 _ _
      | exact ih1 _ _ _ _
      | exact ih2 _ _ _ _ _
      | exact ih3 _ _ _ _ _ _
      | exact ih4 _ _ _ _ _ _
      | exact ih5 _ _ _
      | exact LeO.none _
      | refine LeO.ite ?_ ?_
      | refine LeO.bind ?_ (fun _ => ?_)
set_option maxHeartbeats 8000000 in
set_option maxRecDepth 100000 in
theorem bellowsref03_Clean.calls (k : Nat) (a0 : ByteArray) (r1 : ByteArray) (r2 : Int) (w : World) (h : bellowsref03_Clean.f k a0 = some (r1, r2)) :
    Calls Tryz.prog 20 #[.string a0] w fun e w' => e = .returned (.tuple #[.string r1, .int .i64 r2]) ∧ Below w.heap.size w w' := by
  have HB := Aside0.mk (Below.refl w.heap.size w)
  have H : (if (a0.size : Int) > 1000 then (some ((⟨#[]⟩ : ByteArray), 3)) else (bellowsref03_Clean.l0 k a0 0)) = some (r1, r2) := h
  clear h
  by_cases c2 : (a0.size : Int) > 1000
  · rw [if_pos c2] at H
    have c2b0 : decide (1000 < (a0.size : Int)) = true := decide_eq_true c2
    have c2b1 : decide (1000 < a0.size) = true := decide_eq_true (by omega)
    clear c2
    simp only [Option.some.injEq, Prod.mk.injEq] at H
    obtain ⟨rfl, rfl⟩ := H
    go_enter Tryz.func20, Tryz.ntmps20
    go_wp2
    go_ret2
    exact ⟨by first | rfl | (simp [errW_none, errW_some] <;> rfl) | (simp [*, errW_none, errW_some] <;> rfl), by repeat (first | (with_reducible first | exact HB.out | apply below_alloc | apply pw_below_drewN | apply below_drew1) | exact HB.out)⟩
  · rw [if_neg c2] at H
    have c2b0 : decide (1000 < (a0.size : Int)) = false := decide_eq_false c2
    have c2b1 : decide (1000 < a0.size) = false := decide_eq_false (by omega)
    clear c2
    have H' := Aside0.mk H
    clear H
    go_enter Tryz.func20, Tryz.ntmps20
    go_wp2
    go_loopg [4] k (fun kq v4 w' => ∃ (x4_1 : Int), v4 = .int .i64 x4_1 ∧ Aside0 (bellowsref03_Clean.l0 kq a0 x4_1 = some (r1, r2)) ∧ Aside0 (kq ≤ k) ∧ Aside0 (Below w.heap.size w w'))
    case atStart => exact ⟨(0), (by first | rfl | (simp; done) | (simp [*]; done)), H', ⟨Nat.le_refl _⟩, ⟨by repeat (first | (with_reducible first | exact HB.out | apply below_alloc | apply pw_below_drewN | apply below_drew1) | exact HB.out)⟩⟩
    case round =>
      clear H'
      try clear c2
      try clear c2b0
      try clear c2b1
      try clear p2
      obtain ⟨x4_1, rfl, HA, HK1, HB⟩ := hrel
      cases gk with
      | zero => exact absurd HA.out (by simp [bellowsref03_Clean.l0])
      | succ k1 =>
        have H := HA.out
        clear HA
        simp only [bellowsref03_Clean.l0] at H
        by_cases c3 : x4_1 < (a0.size : Int)
        · rw [if_pos c3] at H
          have c3b0 : decide (x4_1 < (a0.size : Int)) = true := decide_eq_true c3
          clear c3
          by_cases c4 : 0 ≤ x4_1
          · rw [if_pos c4] at H
            have c4b0 : decide (0 ≤ x4_1) = true := decide_eq_true c4
            clear c4
            replace H := Option.bind_eq_some_iff.mp H
            obtain ⟨t118, A60, H⟩ := H
            replace H : (if t118 = true then (if x4_1 = 0 then (if (bt a0 x4_1) = 47 then (some ((⟨#[]⟩ : ByteArray), 5)) else (bellowsref03_Clean.l0 k1 a0 (wrap64 (x4_1 + 1)))) else (bellowsref03_Clean.l0 k1 a0 (wrap64 (x4_1 + 1)))) else (some ((⟨#[]⟩ : ByteArray), 5))) = some (r1, r2) := H
            have A6 := Aside0.mk A60
            clear A60
            by_cases c7 : t118 = true
            · subst c7
              have H1 : (if x4_1 = 0 then (if (bt a0 x4_1) = 47 then (some ((⟨#[]⟩ : ByteArray), 5)) else (bellowsref03_Clean.l0 k1 a0 (wrap64 (x4_1 + 1)))) else (bellowsref03_Clean.l0 k1 a0 (wrap64 (x4_1 + 1)))) = some (r1, r2) := by rw [if_pos rfl] at H; exact H
              clear H
              have H := H1
              clear H1
              by_cases c8 : x4_1 = 0
              · rw [if_pos c8] at H
                have c8b0 : (x4_1 == 0) = true := beq_iff_eq.mpr c8
                have c8b1 : (x4_1 != 0) = false := bne_eq_false_iff_eq.mpr c8
                clear c8
                by_cases c10 : (bt a0 x4_1) = 47
                · rw [if_pos c10] at H
                  have c10b0 : ((bt a0 x4_1) == 47) = true := beq_iff_eq.mpr c10
                  have c10b1 : ((bt a0 x4_1) != 47) = false := bne_eq_false_iff_eq.mpr c10
                  clear c10
                  simp only [Option.some.injEq, Prod.mk.injEq] at H
                  obtain ⟨rfl, rfl⟩ := H
                  have p5 : 0 ≤ (x4_1 : Int) := of_decide_eq_true (by first | (with_reducible assumption) | assumption)
                  have q5 : x4_1 < (a0.size : Int) := of_decide_eq_true (by first | (with_reducible assumption) | assumption)
                  have hx5 := bt_at a0 x4_1
                  replace p5 := eq_true p5
                  replace q5 := eq_true q5
                  go_wp2_with (first | ((with_reducible refine gate_callee (f := 39) rfl ?_); refine goesL_ (some 23) rfl rfl Tryz.func39 (by kernel_rfl) rfl #[.int .u8 (bt a0 x4_1)] rfl (by (try simp only [List.map_toArray, List.map_cons, List.map_nil]); first | done | rfl | (simp only [List.length_drop, List.length_take]; rfl)) ?_; (with_reducible refine (bellowsref03_plain.calls (bt a0 x4_1) true _ A6.out).mono ?_); rintro e w' ⟨rfl, ⟨nd, rfl⟩⟩; refine ⟨_, rfl, ?_⟩; have p9 : 0 ≤ (x4_1 : Int) := of_decide_eq_true (by first | (with_reducible assumption) | assumption); have q9 : x4_1 < (a0.size : Int) := of_decide_eq_true (by first | (with_reducible assumption) | assumption); have hx9 := bt_at a0 x4_1; replace p9 := eq_true p9; replace q9 := eq_true q9))
                  go_ret2
                  exact ⟨by first | rfl | (simp [errW_none, errW_some] <;> rfl) | (simp [*, errW_none, errW_some] <;> rfl), by repeat (first | (with_reducible first | exact HB.out | apply below_alloc | apply pw_below_drewN | apply below_drew1) | exact HB.out)⟩
                · rw [if_neg c10] at H
                  have c10b0 : ((bt a0 x4_1) == 47) = false := beq_eq_false_iff_ne.mpr c10
                  have c10b1 : ((bt a0 x4_1) != 47) = true := bne_iff_ne.mpr c10
                  have H' := Aside0.mk H
                  clear H
                  have p5 : 0 ≤ (x4_1 : Int) := of_decide_eq_true (by first | (with_reducible assumption) | assumption)
                  have q5 : x4_1 < (a0.size : Int) := of_decide_eq_true (by first | (with_reducible assumption) | assumption)
                  have hx5 := bt_at a0 x4_1
                  replace p5 := eq_true p5
                  replace q5 := eq_true q5
                  go_wp2_with (first | ((with_reducible refine gate_callee (f := 39) rfl ?_); refine goesL_ (some 23) rfl rfl Tryz.func39 (by kernel_rfl) rfl #[.int .u8 (bt a0 x4_1)] rfl (by (try simp only [List.map_toArray, List.map_cons, List.map_nil]); first | done | rfl | (simp only [List.length_drop, List.length_take]; rfl)) ?_; (with_reducible refine (bellowsref03_plain.calls (bt a0 x4_1) true _ A6.out).mono ?_); rintro e w' ⟨rfl, ⟨nd, rfl⟩⟩; refine ⟨_, rfl, ?_⟩; have p9 : 0 ≤ (x4_1 : Int) := of_decide_eq_true (by first | (with_reducible assumption) | assumption); have q9 : x4_1 < (a0.size : Int) := of_decide_eq_true (by first | (with_reducible assumption) | assumption); have hx9 := bt_at a0 x4_1; replace p9 := eq_true p9; replace q9 := eq_true q9))
                  go_roundg k1
                  case measure => have := HK1.out; omega
                  case rel => exact ⟨(wrap64 (x4_1 + 1)), (by first | rfl | (simp; done) | (simp [*]; done)), H', ⟨by have := HK1.out; omega⟩, ⟨by repeat (first | (with_reducible first | exact HB.out | apply below_alloc | apply pw_below_drewN | apply below_drew1) | exact HB.out)⟩⟩
              · rw [if_neg c8] at H
                have c8b0 : (x4_1 == 0) = false := beq_eq_false_iff_ne.mpr c8
                have c8b1 : (x4_1 != 0) = true := bne_iff_ne.mpr c8
                have H' := Aside0.mk H
                clear H
                have p5 : 0 ≤ (x4_1 : Int) := of_decide_eq_true (by first | (with_reducible assumption) | assumption)
                have q5 : x4_1 < (a0.size : Int) := of_decide_eq_true (by first | (with_reducible assumption) | assumption)
                have hx5 := bt_at a0 x4_1
                replace p5 := eq_true p5
                replace q5 := eq_true q5
                go_wp2_with (first | ((with_reducible refine gate_callee (f := 39) rfl ?_); refine goesL_ (some 23) rfl rfl Tryz.func39 (by kernel_rfl) rfl #[.int .u8 (bt a0 x4_1)] rfl (by (try simp only [List.map_toArray, List.map_cons, List.map_nil]); first | done | rfl | (simp only [List.length_drop, List.length_take]; rfl)) ?_; (with_reducible refine (bellowsref03_plain.calls (bt a0 x4_1) true _ A6.out).mono ?_); rintro e w' ⟨rfl, ⟨nd, rfl⟩⟩; refine ⟨_, rfl, ?_⟩))
                go_roundg k1
                case measure => have := HK1.out; omega
                case rel => exact ⟨(wrap64 (x4_1 + 1)), (by first | rfl | (simp; done) | (simp [*]; done)), H', ⟨by have := HK1.out; omega⟩, ⟨by repeat (first | (with_reducible first | exact HB.out | apply below_alloc | apply pw_below_drewN | apply below_drew1) | exact HB.out)⟩⟩
            · replace c7 := Bool.eq_false_iff.mpr c7
              subst c7
              have H1 : (some ((⟨#[]⟩ : ByteArray), 5)) = some (r1, r2) := by rw [if_neg (show ¬ (false = true) by decide)] at H; exact H
              clear H
              have H := H1
              clear H1
              simp only [Option.some.injEq, Prod.mk.injEq] at H
              obtain ⟨rfl, rfl⟩ := H
              have p5 : 0 ≤ (x4_1 : Int) := of_decide_eq_true (by first | (with_reducible assumption) | assumption)
              have q5 : x4_1 < (a0.size : Int) := of_decide_eq_true (by first | (with_reducible assumption) | assumption)
              have hx5 := bt_at a0 x4_1
              replace p5 := eq_true p5
              replace q5 := eq_true q5
              go_wp2_with (first | ((with_reducible refine gate_callee (f := 39) rfl ?_); refine goesL_ (some 23) rfl rfl Tryz.func39 (by kernel_rfl) rfl #[.int .u8 (bt a0 x4_1)] rfl (by (try simp only [List.map_toArray, List.map_cons, List.map_nil]); first | done | rfl | (simp only [List.length_drop, List.length_take]; rfl)) ?_; (with_reducible refine (bellowsref03_plain.calls (bt a0 x4_1) false _ A6.out).mono ?_); rintro e w' ⟨rfl, ⟨nd, rfl⟩⟩; refine ⟨_, rfl, ?_⟩))
              go_ret2
              exact ⟨by first | rfl | (simp [errW_none, errW_some] <;> rfl) | (simp [*, errW_none, errW_some] <;> rfl), by repeat (first | (with_reducible first | exact HB.out | apply below_alloc | apply pw_below_drewN | apply below_drew1) | exact HB.out)⟩
          · rw [if_neg c4] at H
            exact absurd H (by simp)
        · rw [if_neg c3] at H
          have c3b0 : decide (x4_1 < (a0.size : Int)) = false := decide_eq_false c3
          clear c3
          have H' := Aside0.mk H
          clear H
          go_wp2
          go_loopg [5, 6, 7] k1 (fun kq v5 v6 v7 w' => ∃ (x5_2 : List ByteArray) (x6_2 : Int) (x7_2 : Int), v6 = .int .i64 x6_2 ∧ v7 = .int .i64 x7_2 ∧ Aside0 (bellowsref03_Clean.l1 kq a0 x5_2 x6_2 x7_2 = some (r1, r2)) ∧ Aside0 (kq ≤ k1) ∧ Aside0 (Kd.R Kd.string 9 w' w.heap.size (fun _ => True) v5 x5_2) ∧ Aside0 (Below w.heap.size w w'))
          case atStart => exact ⟨(([] : List ByteArray)), (0), (0), (by first | rfl | (simp; done) | (simp [*]; done)), (by first | rfl | (simp; done) | (simp [*]; done)), H', ⟨Nat.le_refl _⟩, ⟨by first | exact Kd.R_nil _ _ _ _ _ | exact Kd.N_nil _ _ _ _ _ | exact Kd.V_nil _ _ _ _ _ | exact Kd.Q_nil _ _ _ _ _ | exact Kd.S_nil _ _ _ _ _⟩, ⟨by repeat (first | (with_reducible first | exact HB.out | apply below_alloc | apply pw_below_drewN | apply below_drew1) | exact HB.out)⟩⟩
          case round =>
            clear H'
            try clear c1
            try clear c2
            try clear c2b0
            try clear c2b1
            try clear p2
            try clear c3
            try clear c3b0
            try clear c4
            try clear c4b0
            try clear p5
            try clear q5
            try clear hx5
            try clear p6
            try clear c7
            try clear c8
            try clear c8b0
            try clear c8b1
            try clear p9
            try clear q9
            try clear hx9
            try clear c10
            try clear c10b0
            try clear c10b1
            try clear p2
            try clear p5
            try clear p9
            try clear q5
            try clear q9
            obtain ⟨x5_2, x6_2, x7_2, rfl, rfl, HA, HK2, HO_5, HB⟩ := hrel
            cases gk with
            | zero => exact absurd HA.out (by simp [bellowsref03_Clean.l1])
            | succ k2 =>
              have H := HA.out
              clear HA
              simp only [bellowsref03_Clean.l1] at H
              by_cases c11 : x7_2 ≤ (a0.size : Int)
              · rw [if_pos c11] at H
                have c11b0 : decide (x7_2 ≤ (a0.size : Int)) = true := decide_eq_true c11
                clear c11
                have HC12 := Aside0.mk H
                clear H
                go_upto_region 13 with (fail)
                go_cut [50] (fun v50 wc => ∃ (kq : Nat) (x50_11 : Bool), v50 = .bool x50_11 ∧ Aside0 (bellowsref03_Clean.j2 kq a0 x5_2 x6_2 x7_2 x50_11 = some (r1, r2)) ∧ Aside0 (kq ≤ k2) ∧ Aside0 (Kd.R Kd.string 9 wc w.heap.size (fun _ => True) u5 x5_2) ∧ Aside0 (Below w.heap.size w wc))
                case first =>
                  have H := HC12.out
                  clear HC12
                  by_cases c13 : x7_2 < (a0.size : Int)
                  · rw [if_pos c13] at H
                    have c13b0 : decide (x7_2 < (a0.size : Int)) = true := decide_eq_true c13
                    clear c13
                    (first | rw [c13b0] | (simp only [i64_w, i32_w]; rw [c13b0]) | skip)
                    by_cases c14 : 0 ≤ x7_2
                    · rw [if_pos c14] at H
                      have c14b0 : decide (0 ≤ x7_2) = true := decide_eq_true c14
                      clear c14
                      have H' := Aside0.mk H
                      clear H
                      have p15 : 0 ≤ (x7_2 : Int) := of_decide_eq_true (by first | (with_reducible assumption) | assumption)
                      have q15 : x7_2 < (a0.size : Int) := of_decide_eq_true (by first | (with_reducible assumption) | assumption)
                      have hx15 := bt_at a0 x7_2
                      replace p15 := eq_true p15
                      replace q15 := eq_true q15
                      go_wp2
                      go_meet
                      case rel => exact ⟨_, (((bt a0 x7_2) != 47)), (by first | rfl | (simp; done) | (simp [*]; done)), H', ⟨by have := HK1.out; have := HK2.out; first | omega | exact Nat.le_refl _⟩, ⟨by (with_reducible repeat (first | apply Kd.R_alloc | apply Kd.R_drewN | apply Kd.R_drew)); exact HO_5.out⟩, ⟨by repeat (first | (with_reducible first | exact HB.out | apply below_alloc | apply pw_below_drewN | apply below_drew1) | exact HB.out)⟩⟩
                    · rw [if_neg c14] at H
                      exact absurd H (by simp)
                  · rw [if_neg c13] at H
                    have c13b0 : decide (x7_2 < (a0.size : Int)) = false := decide_eq_false c13
                    clear c13
                    (first | rw [c13b0] | (simp only [i64_w, i32_w]; rw [c13b0]) | skip)
                    have H' := Aside0.mk H
                    clear H
                    go_wp2
                    go_meet
                    case rel => exact ⟨_, (false), (by first | rfl | (simp; done) | (simp [*]; done)), H', ⟨by have := HK1.out; have := HK2.out; first | omega | exact Nat.le_refl _⟩, ⟨by (with_reducible repeat (first | apply Kd.R_alloc | apply Kd.R_drewN | apply Kd.R_drew)); exact HO_5.out⟩, ⟨by repeat (first | (with_reducible first | exact HB.out | apply below_alloc | apply pw_below_drewN | apply below_drew1) | exact HB.out)⟩⟩
                case rest =>
                  clear HC12
                  try clear c1
                  try clear p1
                  try clear q1
                  try clear hx1
                  try clear c2
                  try clear c2b0
                  try clear c2b1
                  try clear p2
                  try clear c3
                  try clear c3b0
                  try clear c4
                  try clear c4b0
                  try clear p5
                  try clear q5
                  try clear hx5
                  try clear p6
                  try clear c7
                  try clear c8
                  try clear c8b0
                  try clear c8b1
                  try clear p9
                  try clear q9
                  try clear hx9
                  try clear c10
                  try clear c10b0
                  try clear c10b1
                  try clear c11
                  try clear c11b0
                  try clear c13
                  try clear c13b0
                  try clear c14
                  try clear c14b0
                  try clear p15
                  try clear q15
                  try clear hx15
                  try clear p15
                  try clear p2
                  try clear p5
                  try clear p6
                  try clear p9
                  try clear q15
                  try clear q5
                  try clear q9
                  obtain ⟨kq, x50_11, rfl, HA, HJ11, HO_5, HB⟩ := hcut
                  cases kq with
                  | zero => exact absurd HA.out (by simp [bellowsref03_Clean.j2])
                  | succ kj11 =>
                    have H := HA.out
                    clear HA
                    simp only [bellowsref03_Clean.j2] at H
                    by_cases c16 : x50_11 = true
                    · subst c16
                      have H1 : (bellowsref03_Clean.l1 kj11 a0 x5_2 x6_2 (wrap64 (x7_2 + 1))) = some (r1, r2) := by rw [if_pos rfl] at H; exact H
                      clear H
                      have H := H1
                      clear H1
                      have H' := Aside0.mk H
                      clear H
                      go_wp2
                      go_roundg kj11
                      case measure => have := HK1.out; have := HK2.out; have := HJ11.out; omega
                      case rel => exact ⟨(x5_2), (x6_2), (wrap64 (x7_2 + 1)), (by first | rfl | (simp; done) | (simp [*]; done)), (by first | rfl | (simp; done) | (simp [*]; done)), H', ⟨by have := HK1.out; have := HK2.out; have := HJ11.out; omega⟩, ⟨by (with_reducible repeat (first | apply Kd.R_alloc | apply Kd.R_drewN | apply Kd.R_drew)); exact HO_5.out⟩, ⟨by repeat (first | (with_reducible first | exact HB.out | apply below_alloc | apply pw_below_drewN | apply below_drew1) | exact HB.out)⟩⟩
                    · replace c16 := Bool.eq_false_iff.mpr c16
                      subst c16
                      have H1 : (if 0 ≤ x6_2 then (if x6_2 ≤ x7_2 then (if x7_2 ≤ (a0.size : Int) then (if (a0.extract (x6_2 : Int).toNat (x7_2 : Int).toNat).toList = ([] : List UInt8) then (bellowsref03_Clean.j3 kj11 a0 x5_2 (wrap64 (x7_2 + 1)) x7_2 (a0.extract (x6_2 : Int).toNat (x7_2 : Int).toNat) true) else (bellowsref03_Clean.j3 kj11 a0 x5_2 (wrap64 (x7_2 + 1)) x7_2 (a0.extract (x6_2 : Int).toNat (x7_2 : Int).toNat) ((a0.extract (x6_2 : Int).toNat (x7_2 : Int).toNat).toList == ([46] : List UInt8)))) else (none)) else (none)) else (none)) = some (r1, r2) := by rw [if_neg (show ¬ (false = true) by decide)] at H; exact H
                      clear H
                      have H := H1
                      clear H1
                      by_cases c17 : 0 ≤ x6_2
                      · rw [if_pos c17] at H
                        have c17b0 := eq_true c17
                        have c17b1 : decide (0 ≤ x6_2) = true := decide_eq_true c17
                        clear c17
                        by_cases c18 : x6_2 ≤ x7_2
                        · rw [if_pos c18] at H
                          have c18b0 := eq_true c18
                          have c18b1 : decide (x6_2 ≤ x7_2) = true := decide_eq_true c18
                          clear c18
                          by_cases c19 : x7_2 ≤ (a0.size : Int)
                          · rw [if_pos c19] at H
                            have c19b0 := eq_true c19
                            have c19b1 : decide (x7_2 ≤ (a0.size : Int)) = true := decide_eq_true c19
                            clear c19
                            have HC20 := Aside0.mk H
                            clear H
                            go_upto_region 16 with (fail)
                            go_cut [62] (fun v62 wc => ∃ (kq : Nat) (x62_19 : Bool), v62 = .bool x62_19 ∧ Aside0 (bellowsref03_Clean.j3 kq a0 x5_2 (wrap64 (x7_2 + 1)) x7_2 (a0.extract (x6_2 : Int).toNat (x7_2 : Int).toNat) x62_19 = some (r1, r2)) ∧ Aside0 (kq ≤ kj11) ∧ Aside0 (Kd.R Kd.string 9 wc w.heap.size (fun _ => True) u5 x5_2) ∧ Aside0 (Below w.heap.size w wc))
                            case first =>
                              have H := HC20.out
                              clear HC20
                              by_cases c21 : (a0.extract (x6_2 : Int).toNat (x7_2 : Int).toNat).toList = ([] : List UInt8)
                              · rw [if_pos c21] at H
                                have c21b0 : ((a0.extract (x6_2 : Int).toNat (x7_2 : Int).toNat).toList == ([] : List UInt8)) = true := beq_iff_eq.mpr c21
                                have c21b1 : ((a0.extract (x6_2 : Int).toNat (x7_2 : Int).toNat).toList != ([] : List UInt8)) = false := bne_eq_false_iff_eq.mpr c21
                                clear c21
                                (first | rw [c21b0] | (simp only [i64_w, i32_w]; rw [c21b0]) | skip)
                                have H' := Aside0.mk H
                                clear H
                                go_wp2
                                go_meet
                                case rel => exact ⟨_, (true), (by first | rfl | (simp; done) | (simp [*]; done)), H', ⟨by have := HK1.out; have := HK2.out; have := HJ11.out; first | omega | exact Nat.le_refl _⟩, ⟨by (with_reducible repeat (first | apply Kd.R_alloc | apply Kd.R_drewN | apply Kd.R_drew)); exact HO_5.out⟩, ⟨by repeat (first | (with_reducible first | exact HB.out | apply below_alloc | apply pw_below_drewN | apply below_drew1) | exact HB.out)⟩⟩
                              · rw [if_neg c21] at H
                                have c21b0 : ((a0.extract (x6_2 : Int).toNat (x7_2 : Int).toNat).toList == ([] : List UInt8)) = false := beq_eq_false_iff_ne.mpr c21
                                have c21b1 : ((a0.extract (x6_2 : Int).toNat (x7_2 : Int).toNat).toList != ([] : List UInt8)) = true := bne_iff_ne.mpr c21
                                (first | rw [c21b0] | (simp only [i64_w, i32_w]; rw [c21b0]) | skip)
                                have H' := Aside0.mk H
                                clear H
                                go_wp2
                                go_meet
                                case rel => exact ⟨_, (((a0.extract (x6_2 : Int).toNat (x7_2 : Int).toNat).toList == ([46] : List UInt8))), (by first | rfl | (simp; done) | (simp [*]; done)), H', ⟨by have := HK1.out; have := HK2.out; have := HJ11.out; first | omega | exact Nat.le_refl _⟩, ⟨by (with_reducible repeat (first | apply Kd.R_alloc | apply Kd.R_drewN | apply Kd.R_drew)); exact HO_5.out⟩, ⟨by repeat (first | (with_reducible first | exact HB.out | apply below_alloc | apply pw_below_drewN | apply below_drew1) | exact HB.out)⟩⟩
                            case rest =>
                              clear HC20
                              try clear c1
                              try clear p1
                              try clear q1
                              try clear hx1
                              try clear c2
                              try clear c2b0
                              try clear c2b1
                              try clear p2
                              try clear c3
                              try clear c3b0
                              try clear c4
                              try clear c4b0
                              try clear p5
                              try clear q5
                              try clear hx5
                              try clear p6
                              try clear c7
                              try clear c8
                              try clear c8b0
                              try clear c8b1
                              try clear p9
                              try clear q9
                              try clear hx9
                              try clear c10
                              try clear c10b0
                              try clear c10b1
                              try clear c11
                              try clear c11b0
                              try clear c13
                              try clear c13b0
                              try clear c14
                              try clear c14b0
                              try clear p15
                              try clear q15
                              try clear hx15
                              try clear c16
                              try clear c17
                              try clear c17b0
                              try clear c17b1
                              try clear c18
                              try clear c18b0
                              try clear c18b1
                              try clear c19
                              try clear c19b0
                              try clear c19b1
                              try clear c20
                              try clear c21
                              try clear c21b0
                              try clear c21b1
                              try clear p1
                              try clear p15
                              try clear p2
                              try clear p5
                              try clear p6
                              try clear p9
                              try clear q1
                              try clear q15
                              try clear q5
                              try clear q9
                              obtain ⟨kq, x62_19, rfl, HA, HJ19, HO_5, HB⟩ := hcut
                              cases kq with
                              | zero => exact absurd HA.out (by simp [bellowsref03_Clean.j3])
                              | succ kj19 =>
                                have H := HA.out
                                clear HA
                                simp only [bellowsref03_Clean.j3] at H
                                by_cases c22 : x62_19 = true
                                · subst c22
                                  have H1 : (bellowsref03_Clean.l1 kj19 a0 x5_2 (wrap64 (x7_2 + 1)) (wrap64 (x7_2 + 1))) = some (r1, r2) := by rw [if_pos rfl] at H; exact H
                                  clear H
                                  have H := H1
                                  clear H1
                                  have H' := Aside0.mk H
                                  clear H
                                  go_wp2
                                  go_roundg kj19
                                  case measure => have := HK1.out; have := HK2.out; have := HJ11.out; have := HJ19.out; omega
                                  case rel => exact ⟨(x5_2), ((wrap64 (x7_2 + 1))), (wrap64 (x7_2 + 1)), (by first | rfl | (simp; done) | (simp [*]; done)), (by first | rfl | (simp; done) | (simp [*]; done)), H', ⟨by have := HK1.out; have := HK2.out; have := HJ11.out; have := HJ19.out; omega⟩, ⟨by (with_reducible repeat (first | apply Kd.R_alloc | apply Kd.R_drewN | apply Kd.R_drew)); exact HO_5.out⟩, ⟨by repeat (first | (with_reducible first | exact HB.out | apply below_alloc | apply pw_below_drewN | apply below_drew1) | exact HB.out)⟩⟩
                                · replace c22 := Bool.eq_false_iff.mpr c22
                                  subst c22
                                  have H1 : (if (a0.extract (x6_2 : Int).toNat (x7_2 : Int).toNat).toList = ([46, 46] : List UInt8) then (bellowsref03_Clean.j4 kj19 a0 x5_2 (wrap64 (x7_2 + 1)) x7_2 (a0.extract (x6_2 : Int).toNat (x7_2 : Int).toNat) ((x5_2.length : Int) == 0)) else (bellowsref03_Clean.j4 kj19 a0 x5_2 (wrap64 (x7_2 + 1)) x7_2 (a0.extract (x6_2 : Int).toNat (x7_2 : Int).toNat) false)) = some (r1, r2) := by rw [if_neg (show ¬ (false = true) by decide)] at H; exact H
                                  clear H
                                  have H := H1
                                  clear H1
                                  have HC23 := Aside0.mk H
                                  clear H
                                  go_upto_region 17 with (fail)
                                  go_cut [69] (fun v69 wc => ∃ (kq : Nat) (x69_22 : Bool), v69 = .bool x69_22 ∧ Aside0 (bellowsref03_Clean.j4 kq a0 x5_2 (wrap64 (x7_2 + 1)) x7_2 (a0.extract (x6_2 : Int).toNat (x7_2 : Int).toNat) x69_22 = some (r1, r2)) ∧ Aside0 (kq ≤ kj19) ∧ Aside0 (Kd.R Kd.string 9 wc w.heap.size (fun _ => True) u5 x5_2) ∧ Aside0 (Below w.heap.size w wc))
                                  case first =>
                                    have H := HC23.out
                                    clear HC23
                                    by_cases c24 : (a0.extract (x6_2 : Int).toNat (x7_2 : Int).toNat).toList = ([46, 46] : List UInt8)
                                    · rw [if_pos c24] at H
                                      have c24b0 : ((a0.extract (x6_2 : Int).toNat (x7_2 : Int).toNat).toList == ([46, 46] : List UInt8)) = true := beq_iff_eq.mpr c24
                                      have c24b1 : ((a0.extract (x6_2 : Int).toNat (x7_2 : Int).toNat).toList != ([46, 46] : List UInt8)) = false := bne_eq_false_iff_eq.mpr c24
                                      clear c24
                                      (first | rw [c24b0] | (simp only [i64_w, i32_w]; rw [c24b0]) | skip)
                                      have H' := Aside0.mk H
                                      clear H
                                      obtain ⟨Ao25, co25, eo25⟩ := Kd.R_slice HO_5.out
                                      subst eo25
                                      go_wp2
                                      go_meet
                                      case rel => exact ⟨_, (((x5_2.length : Int) == 0)), (by first | rfl | (simp; done) | (simp [*]; done)), H', ⟨by have := HK1.out; have := HK2.out; have := HJ11.out; have := HJ19.out; first | omega | exact Nat.le_refl _⟩, ⟨by (with_reducible repeat (first | apply Kd.R_alloc | apply Kd.R_drewN | apply Kd.R_drew)); exact HO_5.out⟩, ⟨by repeat (first | (with_reducible first | exact HB.out | apply below_alloc | apply pw_below_drewN | apply below_drew1) | exact HB.out)⟩⟩
                                    · rw [if_neg c24] at H
                                      have c24b0 : ((a0.extract (x6_2 : Int).toNat (x7_2 : Int).toNat).toList == ([46, 46] : List UInt8)) = false := beq_eq_false_iff_ne.mpr c24
                                      have c24b1 : ((a0.extract (x6_2 : Int).toNat (x7_2 : Int).toNat).toList != ([46, 46] : List UInt8)) = true := bne_iff_ne.mpr c24
                                      (first | rw [c24b0] | (simp only [i64_w, i32_w]; rw [c24b0]) | skip)
                                      have H' := Aside0.mk H
                                      clear H
                                      go_wp2
                                      go_meet
                                      case rel => exact ⟨_, (false), (by first | rfl | (simp; done) | (simp [*]; done)), H', ⟨by have := HK1.out; have := HK2.out; have := HJ11.out; have := HJ19.out; first | omega | exact Nat.le_refl _⟩, ⟨by (with_reducible repeat (first | apply Kd.R_alloc | apply Kd.R_drewN | apply Kd.R_drew)); exact HO_5.out⟩, ⟨by repeat (first | (with_reducible first | exact HB.out | apply below_alloc | apply pw_below_drewN | apply below_drew1) | exact HB.out)⟩⟩
                                  case rest =>
                                    clear HC23
                                    try clear c1
                                    try clear p1
                                    try clear q1
                                    try clear hx1
                                    try clear c2
                                    try clear c2b0
                                    try clear c2b1
                                    try clear p2
                                    try clear c3
                                    try clear c3b0
                                    try clear c4
                                    try clear c4b0
                                    try clear p5
                                    try clear q5
                                    try clear hx5
                                    try clear p6
                                    try clear c7
                                    try clear c8
                                    try clear c8b0
                                    try clear c8b1
                                    try clear p9
                                    try clear q9
                                    try clear hx9
                                    try clear c10
                                    try clear c10b0
                                    try clear c10b1
                                    try clear c11
                                    try clear c11b0
                                    try clear c13
                                    try clear c13b0
                                    try clear c14
                                    try clear c14b0
                                    try clear p15
                                    try clear q15
                                    try clear hx15
                                    try clear c16
                                    try clear c17
                                    try clear c17b0
                                    try clear c17b1
                                    try clear c18
                                    try clear c18b0
                                    try clear c18b1
                                    try clear c19
                                    try clear c19b0
                                    try clear c19b1
                                    try clear c20
                                    try clear c21
                                    try clear c21b0
                                    try clear c21b1
                                    try clear c22
                                    try clear c24
                                    try clear c24b0
                                    try clear c24b1
                                    try clear p1
                                    try clear p15
                                    try clear p2
                                    try clear p5
                                    try clear p6
                                    try clear p9
                                    try clear q1
                                    try clear q15
                                    try clear q5
                                    try clear q9
                                    obtain ⟨kq, x69_22, rfl, HA, HJ22, HO_5, HB⟩ := hcut
                                    cases kq with
                                    | zero => exact absurd HA.out (by simp [bellowsref03_Clean.j4])
                                    | succ kj22 =>
                                      have H := HA.out
                                      clear HA
                                      simp only [bellowsref03_Clean.j4] at H
                                      by_cases c26 : x69_22 = true
                                      · subst c26
                                        have H1 : (some ((⟨#[]⟩ : ByteArray), 5)) = some (r1, r2) := by rw [if_pos rfl] at H; exact H
                                        clear H
                                        have H := H1
                                        clear H1
                                        simp only [Option.some.injEq, Prod.mk.injEq] at H
                                        obtain ⟨rfl, rfl⟩ := H
                                        go_wp2
                                        go_ret2
                                        exact ⟨by first | rfl | (simp [errW_none, errW_some] <;> rfl) | (simp [*, errW_none, errW_some] <;> rfl), by repeat (first | (with_reducible first | exact HB.out | apply below_alloc | apply pw_below_drewN | apply below_drew1) | exact HB.out)⟩
                                      · replace c26 := Bool.eq_false_iff.mpr c26
                                        subst c26
                                        have H1 : (if (a0.extract (x6_2 : Int).toNat (x7_2 : Int).toNat).toList = ([46, 46] : List UInt8) then (if 0 ≤ (wrap64 ((x5_2.length : Int) - 1)) then (if (wrap64 ((x5_2.length : Int) - 1)) ≤ (x5_2.length : Int) then (bellowsref03_Clean.l1 kj22 a0 (x5_2.take ((wrap64 ((x5_2.length : Int) - 1)) : Int).toNat) (wrap64 (x7_2 + 1)) (wrap64 (x7_2 + 1))) else (none)) else (none)) else (if x5_2.length < 8796093022208 then (bellowsref03_Clean.l1 kj22 a0 (x5_2 ++ [(a0.extract (x6_2 : Int).toNat (x7_2 : Int).toNat)]) (wrap64 (x7_2 + 1)) (wrap64 (x7_2 + 1))) else (none))) = some (r1, r2) := by rw [if_neg (show ¬ (false = true) by decide)] at H; exact H
                                        clear H
                                        have H := H1
                                        clear H1
                                        by_cases c27 : (a0.extract (x6_2 : Int).toNat (x7_2 : Int).toNat).toList = ([46, 46] : List UInt8)
                                        · rw [if_pos c27] at H
                                          have c27b0 : ((a0.extract (x6_2 : Int).toNat (x7_2 : Int).toNat).toList == ([46, 46] : List UInt8)) = true := beq_iff_eq.mpr c27
                                          have c27b1 : ((a0.extract (x6_2 : Int).toNat (x7_2 : Int).toNat).toList != ([46, 46] : List UInt8)) = false := bne_eq_false_iff_eq.mpr c27
                                          clear c27
                                          obtain ⟨ji28, hji28⟩ : ∃ j_ : Int, (wrap64 ((x5_2.length : Int) - 1)) = j_ := ⟨_, rfl⟩
                                          replace H : (if 0 ≤ (ji28) then (if (ji28) ≤ (x5_2.length : Int) then (bellowsref03_Clean.l1 kj22 a0 (x5_2.take ((ji28) : Int).toNat) (wrap64 (x7_2 + 1)) (wrap64 (x7_2 + 1))) else (none)) else (none)) = some (r1, r2) := by first | (rw [hji28] at H; exact H) | (simp only [hji28] at H ⊢; exact H)
                                          have hji28w : (IntKind.i64.wrap ((x5_2.length : Int) - 1)) = ji28 := (i64_w _).trans hji28
                                          by_cases c29 : 0 ≤ (ji28)
                                          · rw [if_pos c29] at H
                                            have c29b0 := eq_true c29
                                            have c29b1 : decide (0 ≤ (ji28)) = true := decide_eq_true c29
                                            clear c29
                                            by_cases c30 : (ji28) ≤ (x5_2.length : Int)
                                            · rw [if_pos c30] at H
                                              have c30b0 := eq_true c30
                                              have c30b1 : decide ((ji28) ≤ (x5_2.length : Int)) = true := decide_eq_true c30
                                              clear c30
                                              obtain ⟨y119, hy119⟩ : ∃ y_ : List ByteArray, y_ = (x5_2.take ((ji28) : Int).toNat) := ⟨_, rfl⟩
                                              replace H : (bellowsref03_Clean.l1 kj22 a0 y119 (wrap64 (x7_2 + 1)) (wrap64 (x7_2 + 1))) = some (r1, r2) := by first | (rw [hy119]; with_reducible exact H) | (have H2_ := (Option.bind_some _ _).symm.trans H; rw [hy119]; with_reducible exact H2_) | (have H2_ := (Option.bind_some _ _).symm.trans H; with_reducible exact H2_) | with_reducible exact H | (rw [hy119]; exact H) | exact H
                                              have Ny119 := Aside0.mk hy119
                                              clear hy119
                                              have H' := Aside0.mk H
                                              clear H
                                              obtain ⟨Ao31, co31, eo31⟩ := Kd.R_slice HO_5.out
                                              subst eo31
                                              have q32 : ((ji28) : Int) ≤ ((x5_2.length : Int) : Int) := of_decide_eq_true (by first | (with_reducible assumption) | assumption)
                                              obtain ⟨i032, hi032, _, hsz32, _⟩ := info_parts info9
                                              have hcut32 := cut_to (P := Tryz.prog) 22 9 .i64 Tryz.underlying22 hi032 Ao31 x5_2.length co31 (ji28) (of_decide_eq_true (by first | (with_reducible assumption) | assumption)) q32 (Kd.R_reads' HO_5.out).2.1
                                              have hr32 := Kd.R_take (m := ((ji28) : Int).toNat) HO_5.out (by omega)
                                              have hy32 : y119.length = ((ji28) : Int).toNat := (by rw [Ny119.out, List.length_take]; omega)
                                              rw [← Ny119.out] at hr32
                                              rw [← hy32] at hr32 hcut32
                                              clear hy32 hi032 hsz32 HO_5
                                              have HO121 := Aside0.mk hr32
                                              clear hr32
                                              replace q32 := eq_true q32
                                              go_wp2
                                              go_roundg kj22
                                              case measure => have := HK1.out; have := HK2.out; have := HJ11.out; have := HJ19.out; have := HJ22.out; omega
                                              case rel => exact ⟨(y119), ((wrap64 (x7_2 + 1))), (wrap64 (x7_2 + 1)), (by first | rfl | (simp; done) | (simp [*]; done)), (by first | rfl | (simp; done) | (simp [*]; done)), H', ⟨by have := HK1.out; have := HK2.out; have := HJ11.out; have := HJ19.out; have := HJ22.out; omega⟩, ⟨by (with_reducible repeat (first | apply Kd.R_alloc | apply Kd.R_drewN | apply Kd.R_drew)); exact HO121.out⟩, ⟨by repeat (first | (with_reducible first | exact HB.out | apply below_alloc | apply pw_below_drewN | apply below_drew1) | exact HB.out)⟩⟩
                                            · rw [if_neg c30] at H
                                              exact absurd H (by simp)
                                          · rw [if_neg c29] at H
                                            exact absurd H (by simp)
                                        · rw [if_neg c27] at H
                                          have c27b0 : ((a0.extract (x6_2 : Int).toNat (x7_2 : Int).toNat).toList == ([46, 46] : List UInt8)) = false := beq_eq_false_iff_ne.mpr c27
                                          have c27b1 : ((a0.extract (x6_2 : Int).toNat (x7_2 : Int).toNat).toList != ([46, 46] : List UInt8)) = true := bne_iff_ne.mpr c27
                                          by_cases c33 : x5_2.length < 8796093022208
                                          · rw [if_pos c33] at H
                                            have LMc33 := Aside0.mk c33
                                            clear c33
                                            obtain ⟨y122, hy122⟩ : ∃ y_ : List ByteArray, y_ = (x5_2 ++ [(a0.extract (x6_2 : Int).toNat (x7_2 : Int).toNat)]) := ⟨_, rfl⟩
                                            replace H : (bellowsref03_Clean.l1 kj22 a0 y122 (wrap64 (x7_2 + 1)) (wrap64 (x7_2 + 1))) = some (r1, r2) := by first | (rw [hy122]; with_reducible exact H) | (have H2_ := (Option.bind_some _ _).symm.trans H; rw [hy122]; with_reducible exact H2_) | (have H2_ := (Option.bind_some _ _).symm.trans H; with_reducible exact H2_) | with_reducible exact H | (rw [hy122]; exact H) | exact H
                                            have Ny122 := Aside0.mk hy122
                                            clear hy122
                                            have H' := Aside0.mk H
                                            clear H
                                            go_wp2_with (first | ((with_reducible refine gate_builtin (b := .append) (xs := #[.tmp 77, .tmp 79]) rfl ?_); (try (refine gate_guard (by rfl) ?_; dsimp only)); at_builtin; refine Kd.R_append Kd.string (w0 := w) w.heap.size rfl (.tmp 77) (.tmp 79) 22 9 (.string ⟨#[]⟩) 16 rfl Tryz.underlying22 info9 rfl (by decide) (by omega) u5 x5_2 (a0.extract (x6_2 : Int).toNat (x7_2 : Int).toNat) [.string (a0.extract (x6_2 : Int).toNat (x7_2 : Int).toNat)] (fun _ => True) (fun _ => False) rfl rfl ?aP (fun _ hk => hk.elim) ?aF ?aO ?aB ?aS ?aL ?_; (case aP => exact rfl); (case aB => exact (by repeat (first | (with_reducible first | exact HB.out | apply below_alloc | apply pw_below_drewN | apply below_drew1) | exact HB.out))); (case aF => exact (fun _ _ => trivial)); (case aO => exact (by (with_reducible repeat (first | apply Kd.R_alloc | apply Kd.R_drewN | apply Kd.R_drew)); exact HO_5.out)); (case aS => exact (below_size (by repeat (first | (with_reducible first | exact HB.out | apply below_alloc | apply pw_below_drewN | apply below_drew1) | exact HB.out)))); (case aL => have := LMc33.out; omega); intro v123 w34 ho hb hg hat; rw [← Ny122.out] at ho; have n0_ := Aside0.mk (hb); have n1_ := Aside0.mk (ho); clear HB; clear HO_5; have HB := n0_; have HO124 := n1_; clear n0_ n1_; clear ho hb hg hat))
                                            go_roundg kj22
                                            case measure => have := HK1.out; have := HK2.out; have := HJ11.out; have := HJ19.out; have := HJ22.out; omega
                                            case rel => exact ⟨(y122), ((wrap64 (x7_2 + 1))), (wrap64 (x7_2 + 1)), (by first | rfl | (simp; done) | (simp [*]; done)), (by first | rfl | (simp; done) | (simp [*]; done)), H', ⟨by have := HK1.out; have := HK2.out; have := HJ11.out; have := HJ19.out; have := HJ22.out; omega⟩, ⟨by (with_reducible repeat (first | apply Kd.R_alloc | apply Kd.R_drewN | apply Kd.R_drew)); exact HO124.out⟩, ⟨by repeat (first | (with_reducible first | exact HB.out | apply below_alloc | apply pw_below_drewN | apply below_drew1) | exact HB.out)⟩⟩
                                          · rw [if_neg c33] at H
                                            exact absurd H (by simp)
                          · rw [if_neg c19] at H
                            exact absurd H (by simp)
                        · rw [if_neg c18] at H
                          exact absurd H (by simp)
                      · rw [if_neg c17] at H
                        exact absurd H (by simp)
              · rw [if_neg c11] at H
                have c11b0 : decide (x7_2 ≤ (a0.size : Int)) = false := decide_eq_false c11
                clear c11
                have H' := Aside0.mk H
                clear H
                go_wp2
                go_loopg [9, 10] k2 (fun kq v9 v10 w' => ∃ (x9_3 : ByteArray) (x10_3 : Int), v9 = .string x9_3 ∧ v10 = .int .i64 x10_3 ∧ Aside0 (bellowsref03_Clean.l2 kq x5_2 x9_3 x10_3 = some (r1, r2)) ∧ Aside0 (kq ≤ k2) ∧ Aside0 (Kd.R Kd.string 9 w' w.heap.size (fun _ => True) u5 x5_2) ∧ Aside0 (Below w.heap.size w w'))
                case atStart => exact ⟨((⟨#[]⟩ : ByteArray)), (0), (by first | rfl | (simp; done) | (simp [*]; done)), (by first | rfl | (simp; done) | (simp [*]; done)), H', ⟨Nat.le_refl _⟩, ⟨by (with_reducible repeat (first | apply Kd.R_alloc | apply Kd.R_drewN | apply Kd.R_drew)); exact HO_5.out⟩, ⟨by repeat (first | (with_reducible first | exact HB.out | apply below_alloc | apply pw_below_drewN | apply below_drew1) | exact HB.out)⟩⟩
                case round =>
                  clear H'
                  try clear c1
                  try clear p1
                  try clear q1
                  try clear hx1
                  try clear c2
                  try clear c2b0
                  try clear c2b1
                  try clear p2
                  try clear c3
                  try clear c3b0
                  try clear q3
                  try clear c4
                  try clear c4b0
                  try clear p5
                  try clear q5
                  try clear hx5
                  try clear p6
                  try clear c7
                  try clear c8
                  try clear c8b0
                  try clear c8b1
                  try clear p9
                  try clear q9
                  try clear hx9
                  try clear c10
                  try clear c10b0
                  try clear c10b1
                  try clear c11
                  try clear c11b0
                  try clear c13
                  try clear c13b0
                  try clear c14
                  try clear c14b0
                  try clear p15
                  try clear q15
                  try clear hx15
                  try clear c16
                  try clear c17
                  try clear c17b0
                  try clear c17b1
                  try clear c18
                  try clear c18b0
                  try clear c18b1
                  try clear c19
                  try clear c19b0
                  try clear c19b1
                  try clear c20
                  try clear c21
                  try clear c21b0
                  try clear c21b1
                  try clear c22
                  try clear c24
                  try clear c24b0
                  try clear c24b1
                  try clear c26
                  try clear c27
                  try clear c27b0
                  try clear c27b1
                  try clear c29
                  try clear c29b0
                  try clear c29b1
                  try clear c30
                  try clear c30b0
                  try clear c30b1
                  try clear q32
                  try clear c33
                  try clear p1
                  try clear p15
                  try clear p2
                  try clear p5
                  try clear p6
                  try clear p9
                  try clear q1
                  try clear q15
                  try clear q32
                  try clear q5
                  try clear q9
                  obtain ⟨x9_3, x10_3, rfl, rfl, HA, HK3, HO_5, HB⟩ := hrel
                  cases gk with
                  | zero => exact absurd HA.out (by simp [bellowsref03_Clean.l2])
                  | succ k3 =>
                    have H := HA.out
                    clear HA
                    simp only [bellowsref03_Clean.l2] at H
                    by_cases c35 : x10_3 < (x5_2.length : Int)
                    · rw [if_pos c35] at H
                      have c35b0 : decide (x10_3 < (x5_2.length : Int)) = true := decide_eq_true c35
                      clear c35
                      by_cases c36 : x10_3 > 0
                      · rw [if_pos c36] at H
                        have c36b0 : decide (0 < x10_3) = true := decide_eq_true c36
                        clear c36
                        by_cases c37 : x9_3.size + 1 ≤ 9223372036854775807
                        · rw [if_pos c37] at H
                          have c37b0 := eq_true c37
                          have c37b1 : decide (x9_3.size + 1 ≤ 9223372036854775807) = true := decide_eq_true c37
                          try have c37b2 : (9223372036854775807 < x9_3.size + 1) = False := eq_false (Nat.not_lt.2 c37)
                          by_cases c38 : 0 ≤ x10_3
                          · rw [if_pos c38] at H
                            have c38b0 : decide (0 ≤ x10_3) = true := decide_eq_true c38
                            clear c38
                            by_cases c39 : (x9_3 ++ (⟨#[47]⟩ : ByteArray)).size + (rdOf ByteArray.empty x5_2 x10_3).size ≤ 9223372036854775807
                            · rw [if_pos c39] at H
                              have c39b0 := eq_true c39
                              have c39b1 : decide ((x9_3 ++ (⟨#[47]⟩ : ByteArray)).size + (rdOf ByteArray.empty x5_2 x10_3).size ≤ 9223372036854775807) = true := decide_eq_true c39
                              try have c39b2 : (9223372036854775807 < (x9_3 ++ (⟨#[47]⟩ : ByteArray)).size + (rdOf ByteArray.empty x5_2 x10_3).size) = False := eq_false (Nat.not_lt.2 c39)
                              have H' := Aside0.mk H
                              clear H
                              obtain ⟨Ao40, co40, eo40⟩ := Kd.R_slice HO_5.out
                              subst eo40
                              have p125 : 0 ≤ (x10_3 : Int) := of_decide_eq_true (by first | (with_reducible assumption) | assumption)
                              have q125 : x10_3 < (x5_2.length : Int) := of_decide_eq_true (by first | (with_reducible assumption) | assumption)
                              obtain ⟨ad125, e125, hx125_0⟩ := Kd.at_string (Kd.R_reads' HO_5.out).2.2 x10_3 p125 q125
                              cases e125
                              replace p125 := eq_true p125
                              replace q125 := eq_true q125
                              go_wp2
                              go_roundg k3
                              case measure => have := HK1.out; have := HK2.out; have := HK3.out; omega
                              case rel => exact ⟨((x9_3 ++ (⟨#[47]⟩ : ByteArray)) ++ (rdOf ByteArray.empty x5_2 x10_3)), (wrap64 (x10_3 + 1)), (by first | rfl | (simp; done) | (simp [*]; done)), (by first | rfl | (simp; done) | (simp [*]; done)), H', ⟨by have := HK1.out; have := HK2.out; have := HK3.out; omega⟩, ⟨by (with_reducible repeat (first | apply Kd.R_alloc | apply Kd.R_drewN | apply Kd.R_drew)); exact HO_5.out⟩, ⟨by repeat (first | (with_reducible first | exact HB.out | apply below_alloc | apply pw_below_drewN | apply below_drew1) | exact HB.out)⟩⟩
                            · rw [if_neg c39] at H
                              exact absurd H (by simp)
                          · rw [if_neg c38] at H
                            exact absurd H (by simp)
                        · rw [if_neg c37] at H
                          exact absurd H (by simp)
                      · rw [if_neg c36] at H
                        have c36b0 : decide (0 < x10_3) = false := decide_eq_false c36
                        clear c36
                        by_cases c41 : 0 ≤ x10_3
                        · rw [if_pos c41] at H
                          have c41b0 : decide (0 ≤ x10_3) = true := decide_eq_true c41
                          clear c41
                          by_cases c42 : x9_3.size + (rdOf ByteArray.empty x5_2 x10_3).size ≤ 9223372036854775807
                          · rw [if_pos c42] at H
                            have c42b0 := eq_true c42
                            have c42b1 : decide (x9_3.size + (rdOf ByteArray.empty x5_2 x10_3).size ≤ 9223372036854775807) = true := decide_eq_true c42
                            try have c42b2 : (9223372036854775807 < x9_3.size + (rdOf ByteArray.empty x5_2 x10_3).size) = False := eq_false (Nat.not_lt.2 c42)
                            have H' := Aside0.mk H
                            clear H
                            obtain ⟨Ao43, co43, eo43⟩ := Kd.R_slice HO_5.out
                            subst eo43
                            have p126 : 0 ≤ (x10_3 : Int) := of_decide_eq_true (by first | (with_reducible assumption) | assumption)
                            have q126 : x10_3 < (x5_2.length : Int) := of_decide_eq_true (by first | (with_reducible assumption) | assumption)
                            obtain ⟨ad126, e126, hx126_0⟩ := Kd.at_string (Kd.R_reads' HO_5.out).2.2 x10_3 p126 q126
                            cases e126
                            replace p126 := eq_true p126
                            replace q126 := eq_true q126
                            go_wp2
                            go_roundg k3
                            case measure => have := HK1.out; have := HK2.out; have := HK3.out; omega
                            case rel => exact ⟨(x9_3 ++ (rdOf ByteArray.empty x5_2 x10_3)), (wrap64 (x10_3 + 1)), (by first | rfl | (simp; done) | (simp [*]; done)), (by first | rfl | (simp; done) | (simp [*]; done)), H', ⟨by have := HK1.out; have := HK2.out; have := HK3.out; omega⟩, ⟨by (with_reducible repeat (first | apply Kd.R_alloc | apply Kd.R_drewN | apply Kd.R_drew)); exact HO_5.out⟩, ⟨by repeat (first | (with_reducible first | exact HB.out | apply below_alloc | apply pw_below_drewN | apply below_drew1) | exact HB.out)⟩⟩
                          · rw [if_neg c42] at H
                            exact absurd H (by simp)
                        · rw [if_neg c41] at H
                          exact absurd H (by simp)
                    · rw [if_neg c35] at H
                      have c35b0 : decide (x10_3 < (x5_2.length : Int)) = false := decide_eq_false c35
                      clear c35
                      by_cases c44 : x9_3.toList = ([] : List UInt8)
                      · rw [if_pos c44] at H
                        have c44b0 : (x9_3.toList == ([] : List UInt8)) = true := beq_iff_eq.mpr c44
                        have c44b1 : (x9_3.toList != ([] : List UInt8)) = false := bne_eq_false_iff_eq.mpr c44
                        clear c44
                        simp only [Option.some.injEq, Prod.mk.injEq] at H
                        obtain ⟨rfl, rfl⟩ := H
                        obtain ⟨Ao45, co45, eo45⟩ := Kd.R_slice HO_5.out
                        subst eo45
                        go_wp2
                        go_ret2
                        exact ⟨by first | rfl | (simp [errW_none, errW_some] <;> rfl) | (simp [*, errW_none, errW_some] <;> rfl), by repeat (first | (with_reducible first | exact HB.out | apply below_alloc | apply pw_below_drewN | apply below_drew1) | exact HB.out)⟩
                      · rw [if_neg c44] at H
                        have c44b0 : (x9_3.toList == ([] : List UInt8)) = false := beq_eq_false_iff_ne.mpr c44
                        have c44b1 : (x9_3.toList != ([] : List UInt8)) = true := bne_iff_ne.mpr c44
                        by_cases c46 : (x9_3.size : Int) > 100
                        · rw [if_pos c46] at H
                          have c46b0 : decide (100 < (x9_3.size : Int)) = true := decide_eq_true c46
                          have c46b1 : decide (100 < x9_3.size) = true := decide_eq_true (by omega)
                          clear c46
                          simp only [Option.some.injEq, Prod.mk.injEq] at H
                          obtain ⟨rfl, rfl⟩ := H
                          obtain ⟨Ao47, co47, eo47⟩ := Kd.R_slice HO_5.out
                          subst eo47
                          go_wp2
                          go_ret2
                          exact ⟨by first | rfl | (simp [errW_none, errW_some] <;> rfl) | (simp [*, errW_none, errW_some] <;> rfl), by repeat (first | (with_reducible first | exact HB.out | apply below_alloc | apply pw_below_drewN | apply below_drew1) | exact HB.out)⟩
                        · rw [if_neg c46] at H
                          have c46b0 : decide (100 < (x9_3.size : Int)) = false := decide_eq_false c46
                          have c46b1 : decide (100 < x9_3.size) = false := decide_eq_false (by omega)
                          clear c46
                          simp only [Option.some.injEq, Prod.mk.injEq] at H
                          obtain ⟨rfl, rfl⟩ := H
                          obtain ⟨Ao48, co48, eo48⟩ := Kd.R_slice HO_5.out
                          subst eo48
                          go_wp2
                          go_ret2
                          exact ⟨by first | rfl | (simp [errW_none, errW_some] <;> rfl) | (simp [*, errW_none, errW_some] <;> rfl), by repeat (first | (with_reducible first | exact HB.out | apply below_alloc | apply pw_below_drewN | apply below_drew1) | exact HB.out)⟩
end Go.Proofs.YtbklhcjcgiblkaaGreatDoor.P
end
section
namespace Go.Proofs.YtbklhcjcgiblkaaGreatDoor.P
open Go.RowKit Go.Proofs.YtbklhcjcgiblkaaGreatDoorW.PrintWords Go.Proofs.YtbklhcjcgiblkaaGreatDoorW.PrintLast Go.Proofs.YtbklhcjcgiblkaaGreatDoorW.PrintMore
attribute [local go_sem] max2_int min2_int max_two min_two max_three min_three max_four min_four
set_option linter.unusedVariables false
set_option linter.unusedSimpArgs false
def bellowsref03_Right.f (k : Nat) (a0 : ByteArray) : Option (Bool) := (bellowsref03_Clean.f k a0).bind fun bt141 => (if bt141.2 = 0 then (some (bt141.1.toList == a0.toList)) else (some false))
theorem bellowsref03_Right.mono : ∀ a0 k, LeO (bellowsref03_Right.f k a0) (bellowsref03_Right.f (k + 1) a0) := by
  intro a0 k
  unfold bellowsref03_Right.f
  repeat' first
      | (with_reducible exact bellowsref03_Clean.mono _ _)
      | (with_reducible exact LeO.refl _)
      | (with_reducible exact LeO.none _)
      | (with_reducible refine LeO.ite ?_ ?_)
      | (with_reducible refine LeO.bind ?_ (fun _ => ?_))
      | exact bellowsref03_Clean.mono _ _
      | exact LeO.none _
      | refine LeO.ite ?_ ?_
      | refine LeO.bind ?_ (fun _ => ?_)
set_option maxHeartbeats 8000000 in
set_option maxRecDepth 100000 in
theorem bellowsref03_Right.calls (k : Nat) (a0 : ByteArray) (r : Bool) (w : World) (h : bellowsref03_Right.f k a0 = some r) :
    Calls Tryz.prog 40 #[.string a0] w fun e w' => e = .returned (.bool r) ∧ Below w.heap.size w w' := by
  have HB := Aside0.mk (Below.refl w.heap.size w)
  have H : ((bellowsref03_Clean.f k a0).bind fun bt141 => (if bt141.2 = 0 then (some (bt141.1.toList == a0.toList)) else (some false))) = some r := h
  clear h
  replace H := Option.bind_eq_some_iff.mp H
  obtain ⟨⟨t141, t142⟩, A20, H⟩ := H
  replace H : (if t142 = 0 then (some (t141.toList == a0.toList)) else (some false)) = some r := H
  have A2 := Aside0.mk A20
  clear A20
  by_cases c3 : t142 = 0
  · rw [if_pos c3] at H
    have c3b0 : (t142 == 0) = true := beq_iff_eq.mpr c3
    have c3b1 : (t142 != 0) = false := bne_eq_false_iff_eq.mpr c3
    clear c3
    obtain rfl := Option.some.inj H
    go_enter Tryz.func40, Tryz.ntmps40
    go_wp2_with (first | ((with_reducible refine gate_callee (f := 20) rfl ?_); refine goesL_ (some 7) rfl rfl Tryz.func20 (by kernel_rfl) rfl #[.string a0] rfl (by (try simp only [List.map_toArray, List.map_cons, List.map_nil]); first | done | rfl | (simp only [List.length_drop, List.length_take]; rfl)) ?_; (with_reducible refine (bellowsref03_Clean.calls k a0 t141 t142 _ A2.out).mono ?_); rintro e w4 ⟨rfl, hb⟩; refine ⟨_, rfl, ?_⟩; have n0_ := Aside0.mk (below_step (by repeat (first | (with_reducible first | exact HB.out | apply below_alloc | apply pw_below_drewN | apply below_drew1) | exact HB.out)) hb); clear HB; have HB := n0_; clear n0_; (try clear hb); (try clear hb2); (try clear hk); (try clear hi)))
    go_ret
    exact ⟨by first | rfl | (simp [errW_none, errW_some] <;> rfl) | (simp [*, errW_none, errW_some] <;> rfl), by repeat (first | (with_reducible first | exact HB.out | apply below_alloc | apply pw_below_drewN | apply below_drew1) | exact HB.out)⟩
  · rw [if_neg c3] at H
    have c3b0 : (t142 == 0) = false := beq_eq_false_iff_ne.mpr c3
    have c3b1 : (t142 != 0) = true := bne_iff_ne.mpr c3
    obtain rfl := Option.some.inj H
    go_enter Tryz.func40, Tryz.ntmps40
    go_wp2_with (first | ((with_reducible refine gate_callee (f := 20) rfl ?_); refine goesL_ (some 7) rfl rfl Tryz.func20 (by kernel_rfl) rfl #[.string a0] rfl (by (try simp only [List.map_toArray, List.map_cons, List.map_nil]); first | done | rfl | (simp only [List.length_drop, List.length_take]; rfl)) ?_; (with_reducible refine (bellowsref03_Clean.calls k a0 t141 t142 _ A2.out).mono ?_); rintro e w5 ⟨rfl, hb⟩; refine ⟨_, rfl, ?_⟩; have n0_ := Aside0.mk (below_step (by repeat (first | (with_reducible first | exact HB.out | apply below_alloc | apply pw_below_drewN | apply below_drew1) | exact HB.out)) hb); clear HB; have HB := n0_; clear n0_; (try clear hb); (try clear hb2); (try clear hk); (try clear hi)))
    go_ret
    exact ⟨by first | rfl | (simp [errW_none, errW_some] <;> rfl) | (simp [*, errW_none, errW_some] <;> rfl), by repeat (first | (with_reducible first | exact HB.out | apply below_alloc | apply pw_below_drewN | apply below_drew1) | exact HB.out)⟩
end Go.Proofs.YtbklhcjcgiblkaaGreatDoor.P
end
section
set_option linter.unusedSimpArgs false
set_option linter.unusedVariables false
namespace Go.Proofs.YtbklhcjcgiblkaaGreatDoor.PTh
open Go.RowKit Go.Proofs.YtbklhcjcgiblkaaGreatDoorW.PrintWords Go.Proofs.YtbklhcjcgiblkaaGreatDoor.U Go.Proofs.YtbklhcjcgiblkaaGreatDoor.P Go.Proofs.YtbklhcjcgiblkaaGreatDoor.Rng
theorem plain_all : ((List.range 256).all fun n => bellowsref03_plain.f (n : Int) == some (plainR n)) = true := by decide +kernel
theorem plain_f (b : UInt8) : bellowsref03_plain.f (b.toNat : Int) = some (plainB b) := by
  have h := List.all_eq_true.1 plain_all b.toNat (List.mem_range.2 b.toNat_lt)
  exact beq_iff_eq.1 h
def fin (qs : List (List UInt8)) : ByteArray × Int := if joinP qs = [] then (B [], 5) else if 100 < (joinP qs).length then (B [], 3) else (B (joinP qs), 0)
theorem joinP_take (qs : List (List UInt8)) (i : Nat) : (joinP (qs.take i)).length ≤ (joinP qs).length := by
  by_cases h1 : qs.take i = []
  · rw [h1]; exact Nat.zero_le _
  · by_cases h2 : qs.drop i = []
    · have := List.take_append_drop i qs
      rw [h2, List.append_nil] at this
      rw [this]; exact Nat.le_refl _
    · have := joinP_append _ _ h1 h2
      rw [List.take_append_drop] at this
      rw [this, List.length_append]; omega
theorem ref_l2 (qs : List (List UInt8)) (hn : qs.length < 1000000) (hl : (joinP qs).length < 1000000) (d : Nat) : ∀ i : Nat, i + d = qs.length →
    Ev (fun k => bellowsref03_Clean.l2 k (qs.map B) (B (joinP (qs.take i))) (i : Int)) (fin qs) := by
  induction d with
  | zero =>
    intro i hi
    refine Ev.unroll ?_
    have h1 : ¬ (i : Int) < ((qs.map B).length : Int) := by rw [List.length_map]; omega
    have h2 : qs.take i = qs := List.take_of_length_le (by omega)
    simp only [bellowsref03_Clean.l2, if_neg h1, h2, toList_B, size_B]
    unfold fin
    by_cases h3 : joinP qs = []
    · simp only [if_pos h3]; exact Ev.now _
    · by_cases h4 : 100 < (joinP qs).length
      · have h5 : ((joinP qs).length : Int) > 100 := by omega
        simp only [if_neg h3, if_pos h4, if_pos h5]; exact Ev.now _
      · have h5 : ¬ ((joinP qs).length : Int) > 100 := by omega
        simp only [if_neg h3, if_neg h4, if_neg h5]; exact Ev.now _
  | succ d ih =>
    intro i hi
    refine Ev.unroll ?_
    have hlt : i < qs.length := by omega
    have h1 : (i : Int) < ((qs.map B).length : Int) := by rw [List.length_map]; omega
    have h0 : (0 : Int) ≤ (i : Int) := by omega
    have hr := ih (i + 1) (by omega)
    have hw := Aside0.mk (wrap_succ i (by omega))
    have hrd : rdOf ByteArray.empty (qs.map B) (i : Int) = B qs[i] := by rw [rdOf_B _ _ (by simpa using hlt)]; simp
    have htk : qs.take (i + 1) = qs.take i ++ [qs[i]] := by rw [List.take_add_one, List.getElem?_eq_getElem hlt]; rfl
    have hb1 := joinP_take qs i
    have hb2 := joinP_take qs (i + 1)
    by_cases hi0 : i = 0
    · subst hi0
      have h2 : ¬ ((0 : Nat) : Int) > 0 := by omega
      have e1 : joinP (qs.take (0 + 1)) = qs[0] := by rw [htk]; simp [joinP_one]
      rw [e1] at hb2 hr
      have s1 : (B (joinP (qs.take 0))).size + (B qs[0]).size ≤ 9223372036854775807 := by rw [size_B, size_B]; omega
      have e2 : B (joinP (qs.take 0)) ++ B qs[0] = B qs[0] := by rw [B_append]; simp [joinP_nil]
      simp only [bellowsref03_Clean.l2, if_pos h1, if_neg h2, if_pos h0, hrd, if_pos s1, e2, hw.out]
      exact hr
    · have h2 : (i : Int) > 0 := by omega
      have hne : qs.take i ≠ [] := by
        intro e
        have := congrArg List.length e
        rw [List.length_take, List.length_nil] at this
        omega
      have e1 : joinP (qs.take (i + 1)) = joinP (qs.take i) ++ 47 :: qs[i] := by rw [htk, joinP_snoc _ hne]
      rw [e1] at hb2 hr
      rw [List.length_append, List.length_cons] at hb2
      have e2 : (B (joinP (qs.take i)) ++ (⟨#[47]⟩ : ByteArray)) ++ B qs[i] = B (joinP (qs.take i) ++ 47 :: qs[i]) := by
        show (B _ ++ B [47]) ++ B _ = _
        rw [B_append, B_append]; simp
      have s1 : (B (joinP (qs.take i))).size + 1 ≤ 9223372036854775807 := by rw [size_B]; omega
      have s2 : (B (joinP (qs.take i)) ++ (⟨#[47]⟩ : ByteArray)).size + (B qs[i]).size ≤ 9223372036854775807 := by
        show (B (joinP (qs.take i)) ++ B [47]).size + (B qs[i]).size ≤ _
        rw [B_append, size_B, size_B, List.length_append, List.length_singleton]; omega
      simp only [bellowsref03_Clean.l2, if_pos h1, if_pos h2, if_pos h0, hrd, if_pos s1, if_pos s2, e2, hw.out]
      exact hr
def step1 (w : List UInt8) (ps : List (List UInt8)) : Option (List (List UInt8)) :=
  if w = [] ∨ w = [46] then some ps else if w = [46, 46] then (if ps = [] then none else some ps.dropLast) else some (ps ++ [w])
theorem foldP_step (w : List UInt8) (r ps : List (List UInt8)) : foldP (w :: r) ps = (step1 w ps).bind (foldP r) := by
  rw [foldP, step1]
  by_cases h1 : w = [] ∨ w = [46]
  · rw [if_pos h1, if_pos h1]; rfl
  · rw [if_neg h1, if_neg h1]
    by_cases h2 : w = [46, 46]
    · rw [if_pos h2, if_pos h2]
      by_cases h3 : ps = []
      · rw [if_pos h3, if_pos h3]; rfl
      · rw [if_neg h3, if_neg h3]; rfl
    · rw [if_neg h2, if_neg h2]; rfl
theorem step1_len {w : List UInt8} {ps qs : List (List UInt8)} (h : step1 w ps = some qs) : qs.length ≤ ps.length + 1 ∧ (joinP qs).length ≤ (joinP ps).length + 1 + w.length := by
  rw [step1] at h
  by_cases h1 : w = [] ∨ w = [46]
  · rw [if_pos h1] at h; cases h; omega
  · rw [if_neg h1] at h
    by_cases h2 : w = [46, 46]
    · rw [if_pos h2] at h
      by_cases h3 : ps = []
      · rw [if_pos h3] at h; cases h
      · rw [if_neg h3] at h; cases h
        have := joinP_take ps (ps.length - 1)
        rw [← List.dropLast_eq_take] at this
        rw [List.length_dropLast]; omega
    · rw [if_neg h2] at h; cases h
      by_cases h3 : ps = []
      · subst h3; simp [joinP_one, joinP_nil]
      · rw [joinP_snoc _ h3]; simp; omega
theorem ref_part (T p w r : List UInt8) (ps : List (List UInt8)) (R : ByteArray × Int) (hT : T = p ++ (w ++ r)) (hl : T.length < 100000) (hps : ps.length < 1000000)
    (h0 : step1 w ps = none → R = (B [], 5))
    (h1 : ∀ qs, step1 w ps = some qs → Ev (fun k => bellowsref03_Clean.l1 k (B T) (qs.map B) ((p.length + w.length + 1 : Nat) : Int) ((p.length + w.length + 1 : Nat) : Int)) R) :
    Ev (fun k => bellowsref03_Clean.j2 k (B T) (ps.map B) (p.length : Int) ((p.length + w.length : Nat) : Int) false) R := by
  refine Ev.unroll ?_
  have hTl : T.length = p.length + (w.length + r.length) := by rw [hT]; simp
  have a1 : (0 : Int) ≤ (p.length : Int) := by omega
  have a2 : (p.length : Int) ≤ ((p.length + w.length : Nat) : Int) := by omega
  have a3 : ((p.length + w.length : Nat) : Int) ≤ ((B T).size : Int) := by rw [size_B]; omega
  have hex : (B T).extract (p.length : Int).toNat ((p.length + w.length : Nat) : Int).toNat = B w := by
    rw [extract_B, Int.toNat_natCast, Int.toNat_natCast, hT, ← List.append_assoc, List.take_left' (by simp)]; simp
  have hw := Aside0.mk (show wrap64 (((p.length + w.length : Nat) : Int) + 1) = ((p.length + w.length + 1 : Nat) : Int) from wrap_succ _ (by omega))
  simp only [bellowsref03_Clean.j2, Bool.false_eq_true, if_false, if_pos a1, if_pos a2, if_pos a3, hex, hw.out, toList_B]
  by_cases c1 : w = []
  · simp only [if_pos c1]
    refine Ev.unroll ?_
    simp only [bellowsref03_Clean.j3, if_true, hw.out]
    exact h1 ps (by rw [step1, if_pos (.inl c1)])
  · simp only [if_neg c1]
    refine Ev.unroll ?_
    by_cases c2 : w = [46]
    · have : (w == ([46] : List UInt8)) = true := beq_iff_eq.2 c2
      simp only [bellowsref03_Clean.j3, this, if_true, hw.out]
      exact h1 ps (by rw [step1, if_pos (.inr c2)])
    · have : (w == ([46] : List UInt8)) = false := beq_eq_false_iff_ne.2 c2
      have c12 : ¬ (w = [] ∨ w = [46]) := by simp [c1, c2]
      simp only [bellowsref03_Clean.j3, this, Bool.false_eq_true, if_false, toList_B]
      by_cases c3 : w = [46, 46]
      · simp only [if_pos c3]
        refine Ev.unroll ?_
        by_cases c4 : ps = []
        · subst c4
          simp only [bellowsref03_Clean.j4, List.map_nil, List.length_nil]
          simp only [show (((0 : Nat) : Int) == 0) = true from rfl, if_true]
          have := h0 (by rw [step1, if_neg c12, if_pos c3, if_pos rfl])
          subst this
          exact Ev.now _
        · have hpl : 0 < ps.length := List.length_pos_iff.2 c4
          have e0 : (((ps.map B).length : Int) == 0) = false := by rw [beq_eq_false_iff_ne, List.length_map]; omega
          have e1 : wrap64 (((ps.map B).length : Int) - 1) = ((ps.length - 1 : Nat) : Int) := by rw [List.length_map, wrap_id _ (by omega) (by omega)]; omega
          have e2 : (0 : Int) ≤ ((ps.length - 1 : Nat) : Int) := by omega
          have e3 : ((ps.length - 1 : Nat) : Int) ≤ ((ps.map B).length : Int) := by rw [List.length_map]; omega
          have e4 : (ps.map B).take ((ps.length - 1 : Nat) : Int).toNat = ps.dropLast.map B := by rw [Int.toNat_natCast, List.dropLast_eq_take, List.map_take]
          simp only [bellowsref03_Clean.j4, e0, Bool.false_eq_true, if_false, toList_B, if_pos c3, e1, if_pos e2, if_pos e3, e4, hw.out]
          exact h1 _ (by rw [step1, if_neg c12, if_pos c3, if_neg c4])
      · simp only [if_neg c3]
        refine Ev.unroll ?_
        have e1 : (ps.map B).length < 8796093022208 := by rw [List.length_map]; omega
        simp only [bellowsref03_Clean.j4, Bool.false_eq_true, if_false, toList_B, if_neg c3, if_pos e1, hw.out]
        have := h1 (ps ++ [w]) (by rw [step1, if_neg c12, if_neg c3])
        rw [List.map_append] at this
        exact this
def Rof (o : Option (List (List UInt8))) : ByteArray × Int := match o with | none => (B [], 5) | some qs => fin qs
theorem ref_l1 (n : Nat) : ∀ (T p w s : List UInt8) (ps : List (List UInt8)), s.length = n → T = p ++ (w ++ s) → (47 : UInt8) ∉ w → T.length < 100000 → ps.length + s.length < 500000 →
    (joinP ps).length + w.length + s.length < 500000 →
    Ev (fun k => bellowsref03_Clean.l1 k (B T) (ps.map B) (p.length : Int) ((p.length + w.length : Nat) : Int)) (Rof (foldP (sp (w ++ s)) ps)) := by
  induction n with
  | zero =>
    intro T p w s ps hs hT hw hl hps hj
    obtain rfl := List.length_eq_zero_iff.1 hs
    simp only [List.length_nil, Nat.add_zero] at hps hj
    refine Ev.unroll ?_
    have hTl : T.length = p.length + w.length := by rw [hT]; simp
    have h1 : ((p.length + w.length : Nat) : Int) ≤ ((B T).size : Int) := by rw [size_B]; omega
    have h2 : ¬ ((p.length + w.length : Nat) : Int) < ((B T).size : Int) := by rw [size_B]; omega
    simp only [bellowsref03_Clean.l1, if_pos h1, if_neg h2]
    rw [List.append_nil, sp_none w hw, foldP_step]
    refine ref_part T p w [] ps _ hT hl (by omega) (fun h => by rw [h]; rfl) (fun qs h => ?_)
    have hq := step1_len h
    rw [h]
    refine Ev.unroll ?_
    have h3 : ¬ ((p.length + w.length + 1 : Nat) : Int) ≤ ((B T).size : Int) := by rw [size_B]; omega
    simp only [bellowsref03_Clean.l1, if_neg h3]
    have := ref_l2 qs (by omega) (by omega) qs.length 0 (by omega)
    exact this
  | succ n ih =>
    intro T p w s ps hs hT hw hl hps hj
    cases s with
    | nil => cases hs
    | cons b s =>
      simp only [List.length_cons] at hs hps hj
      refine Ev.unroll ?_
      have hTl : T.length = p.length + (w.length + (s.length + 1)) := by rw [hT]; simp
      have h1 : ((p.length + w.length : Nat) : Int) ≤ ((B T).size : Int) := by rw [size_B]; omega
      have h2 : ((p.length + w.length : Nat) : Int) < ((B T).size : Int) := by rw [size_B]; omega
      have h3 : (0 : Int) ≤ ((p.length + w.length : Nat) : Int) := by omega
      have hbt : bt (B T) ((p.length + w.length : Nat) : Int) = (b.toNat : Int) := by
        have := bt_mid (p ++ w) b s
        rw [List.length_append, List.append_assoc, ← hT] at this
        exact this
      simp only [bellowsref03_Clean.l1, if_pos h1, if_pos h2, if_pos h3, hbt]
      by_cases hb : b = 47
      · subst hb
        have e1 : (((47 : UInt8).toNat : Int) != 47) = false := rfl
        rw [e1, sp_at w s hw, foldP_step]
        refine ref_part T p w (47 :: s) ps _ hT hl (by omega) (fun h => by rw [h]; rfl) (fun qs h => ?_)
        have hq := step1_len h
        rw [h]
        have := ih T (p ++ (w ++ [47])) [] s qs (by omega) (by rw [hT]; simp) (by simp) hl (by omega) (by simp; omega)
        simp only [List.length_append, List.length_singleton, List.length_nil, Nat.add_zero, List.nil_append] at this
        exact this
      · have e1 : ((b.toNat : Int) != 47) = true := bne_iff_ne.2 (byte_ne (d := 47) hb)
        rw [e1]
        refine Ev.unroll ?_
        have hw2 := Aside0.mk (show wrap64 (((p.length + w.length : Nat) : Int) + 1) = ((p.length + w.length + 1 : Nat) : Int) from wrap_succ _ (by omega))
        simp only [bellowsref03_Clean.j2, if_true, hw2.out]
        have := ih T p (w ++ [b]) s ps (by omega) (by rw [hT]; simp) (by simp [hw, Ne.symm hb]) hl (by omega) (by rw [List.length_append, List.length_singleton]; omega)
        rw [List.length_append, List.length_singleton, List.append_assoc] at this
        exact this
theorem ref_l0 (n : Nat) (T : List UInt8) (hl : T.length < 100000) : ∀ (p s : List UInt8), s.length = n → T = p ++ s → (p ≠ [] → T.head? ≠ some 47) → p.all plainB = true →
    Ev (fun k => bellowsref03_Clean.l0 k (B T) (p.length : Int)) (if T.head? = some 47 ∨ T.all plainB = false then (B [], 5) else Rof (foldP (sp T) [])) := by
  induction n with
  | zero =>
    intro p s hs hT hh hp
    obtain rfl := List.length_eq_zero_iff.1 hs
    rw [List.append_nil] at hT
    subst hT
    refine Ev.unroll ?_
    have h1 : ¬ (T.length : Int) < ((B T).size : Int) := by rw [size_B]; omega
    have hh' : ¬ (T.head? = some 47 ∨ T.all plainB = false) := by
      rintro (h | h)
      · cases T with
        | nil => cases h
        | cons b t => exact hh (by simp) h
      · rw [hp] at h; cases h
    simp only [bellowsref03_Clean.l0, if_neg h1, if_neg hh']
    have := ref_l1 T.length T [] [] T [] rfl rfl (by simp) hl (by simp; omega) (by simp [joinP_nil]; omega)
    exact this
  | succ n ih =>
    intro p s hs hT hh hp
    cases s with
    | nil => cases hs
    | cons b s =>
      refine Ev.unroll ?_
      have hTl : T.length = p.length + (s.length + 1) := by rw [hT]; simp
      have h1 : (p.length : Int) < ((B T).size : Int) := by rw [size_B]; omega
      have h2 : (0 : Int) ≤ (p.length : Int) := by omega
      have hbt : bt (B T) (p.length : Int) = (b.toNat : Int) := by rw [hT]; exact bt_mid p b s
      have hw := Aside0.mk (show wrap64 ((p.length : Int) + 1) = ((p.length + 1 : Nat) : Int) from wrap_succ _ (by omega))
      simp only [bellowsref03_Clean.l0, if_pos h1, if_pos h2, hbt, plain_f, Option.bind_some, hw.out]
      by_cases hb : plainB b = true
      · simp only [if_pos hb]
        have go : (T.head? ≠ some 47) → Ev (fun k => bellowsref03_Clean.l0 k (B T) ((p.length + 1 : Nat) : Int)) (if T.head? = some 47 ∨ T.all plainB = false then (B [], 5) else Rof (foldP (sp T) [])) := fun hd => by
          have := ih (p ++ [b]) s (by simpa using hs) (by rw [hT]; simp) (fun _ => hd) (by rw [List.all_append, hp]; simp [hb])
          rw [List.length_append, List.length_singleton] at this
          exact this
        by_cases hp0 : p = []
        · subst hp0
          have hd : T.head? = some b := by rw [hT]; rfl
          simp only [List.length_nil]
          simp only [show ((0 : Nat) : Int) = 0 from rfl, if_true]
          by_cases hb47 : b = 47
          · subst hb47
            simp only [show ((47 : UInt8).toNat : Int) = 47 from rfl, if_true, if_pos (Or.inl hd)]
            exact Ev.now _
          · simp only [if_neg (show ¬ (b.toNat : Int) = 47 from byte_ne (d := 47) hb47)]
            have := go (by rw [hd]; simpa using hb47)
            simpa using this
        · have h3 : ¬ (p.length : Int) = 0 := by
            have := List.length_pos_iff.2 hp0
            omega
          simp only [if_neg h3]
          exact go (hh hp0)
      · simp only [if_neg hb]
        have : T.all plainB = false := by
          rw [hT, List.all_append, List.all_cons]
          simp [hb]
        rw [if_pos (.inr this)]
        exact Ev.now _
theorem ref_Clean (l : List UInt8) : Ev (fun k => bellowsref03_Clean.f k (B l)) (B (cleanL l).1, (cleanL l).2) := by
  by_cases h : ((B l).size : Int) > 1000
  · have h' : 1000 < l.length := by rw [size_B] at h; omega
    simp only [bellowsref03_Clean.f, if_pos h, cleanL, if_pos h']
    exact Ev.now _
  · have h' : ¬ 1000 < l.length := by rw [size_B] at h; omega
    simp only [bellowsref03_Clean.f, if_neg h]
    have := ref_l0 l.length l (by omega) [] l rfl rfl (by simp) rfl
    refine Ev.eqn this ?_
    rw [cleanL, if_neg h']
    by_cases h2 : l.head? = some 47 ∨ l.all plainB = false
    · rw [if_pos h2, if_pos h2]
    · rw [if_neg h2, if_neg h2]
      show Rof (foldP (splitK 47 0 l) []) = _
      cases foldP (splitK 47 0 l) [] with
      | none => rfl
      | some ps =>
        simp only [Rof, fin]
        split
        · rfl
        · split <;> rfl
theorem ref_Right (l : List UInt8) : Ev (fun k => bellowsref03_Right.f k (B l)) (decide (cleanL l = (l, 0))) := by
  simp only [bellowsref03_Right.f]
  refine Ev.bind (ref_Clean l) ?_
  simp only [toList_B]
  by_cases h : (cleanL l).2 = 0
  · rw [if_pos h]
    refine Ev.eqn (Ev.now _) ?_
    rw [Bool.eq_iff_iff, beq_iff_eq, decide_eq_true_iff]
    exact ⟨fun e => Prod.ext e h, fun e => by rw [e]⟩
  · rw [if_neg h]
    refine Ev.eqn (Ev.now _) ?_
    symm
    rw [decide_eq_false_iff_not]
    intro e; rw [e] at h; exact h rfl
end Go.Proofs.YtbklhcjcgiblkaaGreatDoor.PTh
end
section
namespace Go.Proofs.YtbklhcjcgiblkaaGreatDoor.P
open Go.RowKit Go.Proofs.YtbklhcjcgiblkaaGreatDoorW.PrintWords Go.Proofs.YtbklhcjcgiblkaaGreatDoorW.PrintLast Go.Proofs.YtbklhcjcgiblkaaGreatDoorW.PrintMore
attribute [local go_sem] max2_int min2_int max_two min_two max_three min_three max_four min_four
set_option linter.unusedVariables false
set_option linter.unusedSimpArgs false
def bellowsref13_In.l0 : Nat → List ByteArray → ByteArray → Int → Option (Bool)
  | 0, _, _, _ => none
  | k + 1, x0, x1, x5 => if x5 < (x0.length : Int) then (if 0 ≤ x5 then (if (rdOf ByteArray.empty x0 x5).toList = x1.toList then (some true) else (bellowsref13_In.l0 k x0 x1 (wrap64 (x5 + 1)))) else (none)) else (some false)
def bellowsref13_In.f (k : Nat) (l0 : List ByteArray) (a1 : ByteArray) : Option (Bool) := bellowsref13_In.l0 k l0 a1 0
theorem bellowsref13_In.mono_l : ∀ k, (∀ y0 y1 y2, LeO (bellowsref13_In.l0 k y0 y1 y2) (bellowsref13_In.l0 (k + 1) y0 y1 y2))
  | 0 => fun _ _ _ r h => by simp [bellowsref13_In.l0] at h
  | k + 1 => by
    have ih0 := bellowsref13_In.mono_l k
    · intro y0 y1 y2
      unfold bellowsref13_In.l0
      repeat' first
      | (with_reducible exact ih0 _ _ _)
      | (with_reducible exact LeO.refl _)
      | (with_reducible exact LeO.none _)
      | (with_reducible refine LeO.ite ?_ ?_)
      | (with_reducible refine LeO.bind ?_ (fun _ => ?_))
      | exact ih0 _ _ _
      | exact LeO.none _
      | refine LeO.ite ?_ ?_
      | refine LeO.bind ?_ (fun _ => ?_)
theorem bellowsref13_In.mono : ∀ a0 a1 k, LeO (bellowsref13_In.f k a0 a1) (bellowsref13_In.f (k + 1) a0 a1) := by
  intro a0 a1 k
  have ih0 := bellowsref13_In.mono_l k
  unfold bellowsref13_In.f
  repeat' first
      | (with_reducible exact ih0 _ _ _)
      | (with_reducible exact LeO.refl _)
      | (with_reducible exact LeO.none _)
      | (with_reducible refine LeO.ite ?_ ?_)
      | (with_reducible refine LeO.bind ?_ (fun _ => ?_))
      | exact ih0 _ _ _
      | exact LeO.none _
      | refine LeO.ite ?_ ?_
      | refine LeO.bind ?_ (fun _ => ?_)
set_option maxHeartbeats 8000000 in
set_option maxRecDepth 100000 in
theorem bellowsref13_In.calls (k : Nat) (A0 : Option Addr) (c0 : Nat) (l0 : List ByteArray) (a1 : ByteArray) (r : Bool) (w : World) (hr0 : Kd.C Kd.string w A0 l0.length l0) (hc0 : l0.length ≤ c0) (h : bellowsref13_In.f k l0 a1 = some r) :
    Calls Tryz.prog 10 #[.slice A0 l0.length c0, .string a1] w fun e w' => e = .returned (.bool r) ∧ Drawn0 w w' := by
  have HR0 := Aside0.mk hr0
  have HC0 := Aside0.mk hc0
  clear hr0 hc0
  have H : (bellowsref13_In.l0 k l0 a1 0) = some r := h
  clear h
  have H' := Aside0.mk H
  clear H
  go_enter Tryz.func10, Tryz.ntmps10
  go_wp2
  go_loopg [5] k (fun kq v5 w' => ∃ (x5_1 : Int), v5 = .int .i64 x5_1 ∧ Aside0 (bellowsref13_In.l0 kq l0 a1 x5_1 = some r) ∧ Aside0 (kq ≤ k) ∧ Drawn0 w w')
  case atStart => exact ⟨(0), (by first | rfl | (simp; done) | (simp [*]; done)), H', ⟨Nat.le_refl _⟩, by repeat (first | exact Drawn0.refl _ | apply Drawn0.step)⟩
  case round =>
    clear H'
    try clear c1
    try clear p2
    obtain ⟨x5_1, rfl, HA, HK1, ⟨m1, rfl⟩⟩ := hrel
    cases gk with
    | zero => exact absurd HA.out (by simp [bellowsref13_In.l0])
    | succ k1 =>
      have H := HA.out
      clear HA
      simp only [bellowsref13_In.l0] at H
      by_cases c3 : x5_1 < (l0.length : Int)
      · rw [if_pos c3] at H
        have c3b0 : decide (x5_1 < (l0.length : Int)) = true := decide_eq_true c3
        clear c3
        by_cases c4 : 0 ≤ x5_1
        · rw [if_pos c4] at H
          have c4b0 : decide (0 ≤ x5_1) = true := decide_eq_true c4
          clear c4
          by_cases c5 : (rdOf ByteArray.empty l0 x5_1).toList = a1.toList
          · rw [if_pos c5] at H
            have c5b0 : ((rdOf ByteArray.empty l0 x5_1).toList == a1.toList) = true := beq_iff_eq.mpr c5
            have c5b1 : ((rdOf ByteArray.empty l0 x5_1).toList != a1.toList) = false := bne_eq_false_iff_eq.mpr c5
            clear c5
            obtain rfl := Option.some.inj H
            have p117 : 0 ≤ (x5_1 : Int) := of_decide_eq_true (by first | (with_reducible assumption) | assumption)
            have q117 : x5_1 < (l0.length : Int) := of_decide_eq_true (by first | (with_reducible assumption) | assumption)
            obtain ⟨ad117, e117, hx117_0⟩ := Kd.at_string HR0.out x5_1 p117 q117
            cases e117
            replace p117 := eq_true p117
            replace q117 := eq_true q117
            go_wp2
            go_ret
            exact ⟨by first | rfl | (simp; done) | (simp [*]; done), by repeat (first | exact Drawn0.refl _ | apply Drawn0.step)⟩
          · rw [if_neg c5] at H
            have c5b0 : ((rdOf ByteArray.empty l0 x5_1).toList == a1.toList) = false := beq_eq_false_iff_ne.mpr c5
            have c5b1 : ((rdOf ByteArray.empty l0 x5_1).toList != a1.toList) = true := bne_iff_ne.mpr c5
            have H' := Aside0.mk H
            clear H
            have p117 : 0 ≤ (x5_1 : Int) := of_decide_eq_true (by first | (with_reducible assumption) | assumption)
            have q117 : x5_1 < (l0.length : Int) := of_decide_eq_true (by first | (with_reducible assumption) | assumption)
            obtain ⟨ad117, e117, hx117_0⟩ := Kd.at_string HR0.out x5_1 p117 q117
            cases e117
            replace p117 := eq_true p117
            replace q117 := eq_true q117
            go_wp2
            go_roundg k1
            case measure => have := HK1.out; omega
            case rel => exact ⟨(wrap64 (x5_1 + 1)), (by first | rfl | (simp; done) | (simp [*]; done)), H', ⟨by have := HK1.out; omega⟩, by repeat (first | exact Drawn0.refl _ | apply Drawn0.step)⟩
        · rw [if_neg c4] at H
          exact absurd H (by simp)
      · rw [if_neg c3] at H
        have c3b0 : decide (x5_1 < (l0.length : Int)) = false := decide_eq_false c3
        clear c3
        obtain rfl := Option.some.inj H
        go_wp2
        go_ret
        exact ⟨by first | rfl | (simp; done) | (simp [*]; done), by repeat (first | exact Drawn0.refl _ | apply Drawn0.step)⟩
end Go.Proofs.YtbklhcjcgiblkaaGreatDoor.P
end
section
namespace Go.Proofs.YtbklhcjcgiblkaaGreatDoor.P
open Go.RowKit Go.Proofs.YtbklhcjcgiblkaaGreatDoorW.PrintWords Go.Proofs.YtbklhcjcgiblkaaGreatDoorW.PrintLast Go.Proofs.YtbklhcjcgiblkaaGreatDoorW.PrintMore
attribute [local go_sem] max2_int min2_int max_two min_two max_three min_three max_four min_four
set_option linter.unusedVariables false
set_option linter.unusedSimpArgs false
def bellowsref14_Print.l0 : Nat → List ByteArray → ByteArray → Int → Option (ByteArray)
  | 0, _, _, _ => none
  | k + 1, x1, x5, x6 => if x6 < (x1.length : Int) then (if 0 ≤ x6 then (if 1 + (rdOf ByteArray.empty x1 x6).size ≤ 9223372036854775807 then (if x5.size + ((⟨#[32]⟩ : ByteArray) ++ (rdOf ByteArray.empty x1 x6)).size ≤ 9223372036854775807 then (bellowsref14_Print.l0 k x1 (x5 ++ ((⟨#[32]⟩ : ByteArray) ++ (rdOf ByteArray.empty x1 x6))) (wrap64 (x6 + 1))) else (none)) else (none)) else (none)) else (if x5.size + 1 ≤ 9223372036854775807 then (some (x5 ++ (⟨#[10]⟩ : ByteArray))) else (none))
def bellowsref14_Print.f (k : Nat) (a0 : ByteArray) (l1 : List ByteArray) : Option (ByteArray) := if a0.size + 1 ≤ 9223372036854775807 then (bellowsref14_Print.l0 k l1 (a0 ++ (⟨#[58]⟩ : ByteArray)) 0) else (none)
theorem bellowsref14_Print.mono_l : ∀ k, (∀ y0 y1 y2, LeO (bellowsref14_Print.l0 k y0 y1 y2) (bellowsref14_Print.l0 (k + 1) y0 y1 y2))
  | 0 => fun _ _ _ r h => by simp [bellowsref14_Print.l0] at h
  | k + 1 => by
    have ih0 := bellowsref14_Print.mono_l k
    · intro y0 y1 y2
      unfold bellowsref14_Print.l0
      repeat' first
      | (with_reducible exact ih0 _ _ _)
      | (with_reducible exact LeO.refl _)
      | (with_reducible exact LeO.none _)
      | (with_reducible refine LeO.ite ?_ ?_)
      | (with_reducible refine LeO.bind ?_ (fun _ => ?_))
      | exact ih0 _ _ _
      | exact LeO.none _
      | refine LeO.ite ?_ ?_
      | refine LeO.bind ?_ (fun _ => ?_)
theorem bellowsref14_Print.mono : ∀ a0 a1 k, LeO (bellowsref14_Print.f k a0 a1) (bellowsref14_Print.f (k + 1) a0 a1) := by
  intro a0 a1 k
  have ih0 := bellowsref14_Print.mono_l k
  unfold bellowsref14_Print.f
  repeat' first
      | (with_reducible exact ih0 _ _ _)
      | (with_reducible exact LeO.refl _)
      | (with_reducible exact LeO.none _)
      | (with_reducible refine LeO.ite ?_ ?_)
      | (with_reducible refine LeO.bind ?_ (fun _ => ?_))
      | exact ih0 _ _ _
      | exact LeO.none _
      | refine LeO.ite ?_ ?_
      | refine LeO.bind ?_ (fun _ => ?_)
set_option maxHeartbeats 8000000 in
set_option maxRecDepth 100000 in
theorem bellowsref14_Print.calls (k : Nat) (a0 : ByteArray) (A1 : Option Addr) (c1 : Nat) (l1 : List ByteArray) (r : ByteArray) (w : World) (hr1 : Kd.C Kd.string w A1 l1.length l1) (hc1 : l1.length ≤ c1) (h : bellowsref14_Print.f k a0 l1 = some r) :
    Calls Tryz.prog 23 #[.string a0, .slice A1 l1.length c1] w fun e w' => e = .returned (.string r) ∧ Drawn0 w w' := by
  have HR1 := Aside0.mk hr1
  have HC1 := Aside0.mk hc1
  clear hr1 hc1
  have H : (if a0.size + 1 ≤ 9223372036854775807 then (bellowsref14_Print.l0 k l1 (a0 ++ (⟨#[58]⟩ : ByteArray)) 0) else (none)) = some r := h
  clear h
  by_cases c3 : a0.size + 1 ≤ 9223372036854775807
  · rw [if_pos c3] at H
    have c3b0 := eq_true c3
    have c3b1 : decide (a0.size + 1 ≤ 9223372036854775807) = true := decide_eq_true c3
    try have c3b2 : (9223372036854775807 < a0.size + 1) = False := eq_false (Nat.not_lt.2 c3)
    have H' := Aside0.mk H
    clear H
    go_enter Tryz.func23, Tryz.ntmps23
    go_wp2
    go_loopg [5, 6] k (fun kq v5 v6 w' => ∃ (x5_1 : ByteArray) (x6_1 : Int), v5 = .string x5_1 ∧ v6 = .int .i64 x6_1 ∧ Aside0 (bellowsref14_Print.l0 kq l1 x5_1 x6_1 = some r) ∧ Aside0 (kq ≤ k) ∧ Drawn0 w w')
    case atStart => exact ⟨(a0 ++ (⟨#[58]⟩ : ByteArray)), (0), (by first | rfl | (simp; done) | (simp [*]; done)), (by first | rfl | (simp; done) | (simp [*]; done)), H', ⟨Nat.le_refl _⟩, by repeat (first | exact Drawn0.refl _ | apply Drawn0.step)⟩
    case round =>
      clear H'
      try clear c1
      try clear c2
      try clear p2
      try clear c3
      try clear c3b0
      try clear c3b1
      try clear c3b2
      obtain ⟨x5_1, x6_1, rfl, rfl, HA, HK1, ⟨m1, rfl⟩⟩ := hrel
      cases gk with
      | zero => exact absurd HA.out (by simp [bellowsref14_Print.l0])
      | succ k1 =>
        have H := HA.out
        clear HA
        simp only [bellowsref14_Print.l0] at H
        by_cases c4 : x6_1 < (l1.length : Int)
        · rw [if_pos c4] at H
          have c4b0 : decide (x6_1 < (l1.length : Int)) = true := decide_eq_true c4
          clear c4
          by_cases c5 : 0 ≤ x6_1
          · rw [if_pos c5] at H
            have c5b0 : decide (0 ≤ x6_1) = true := decide_eq_true c5
            clear c5
            by_cases c6 : 1 + (rdOf ByteArray.empty l1 x6_1).size ≤ 9223372036854775807
            · rw [if_pos c6] at H
              have c6b0 := eq_true c6
              have c6b1 : decide (1 + (rdOf ByteArray.empty l1 x6_1).size ≤ 9223372036854775807) = true := decide_eq_true c6
              try have c6b2 : (9223372036854775807 < 1 + (rdOf ByteArray.empty l1 x6_1).size) = False := eq_false (Nat.not_lt.2 c6)
              by_cases c7 : x5_1.size + ((⟨#[32]⟩ : ByteArray) ++ (rdOf ByteArray.empty l1 x6_1)).size ≤ 9223372036854775807
              · rw [if_pos c7] at H
                have c7b0 := eq_true c7
                have c7b1 : decide (x5_1.size + ((⟨#[32]⟩ : ByteArray) ++ (rdOf ByteArray.empty l1 x6_1)).size ≤ 9223372036854775807) = true := decide_eq_true c7
                try have c7b2 : (9223372036854775807 < x5_1.size + ((⟨#[32]⟩ : ByteArray) ++ (rdOf ByteArray.empty l1 x6_1)).size) = False := eq_false (Nat.not_lt.2 c7)
                have H' := Aside0.mk H
                clear H
                have p185 : 0 ≤ (x6_1 : Int) := of_decide_eq_true (by first | (with_reducible assumption) | assumption)
                have q185 : x6_1 < (l1.length : Int) := of_decide_eq_true (by first | (with_reducible assumption) | assumption)
                obtain ⟨ad185, e185, hx185_0⟩ := Kd.at_string HR1.out x6_1 p185 q185
                cases e185
                replace p185 := eq_true p185
                replace q185 := eq_true q185
                go_wp2
                go_roundg k1
                case measure => have := HK1.out; omega
                case rel => exact ⟨(x5_1 ++ ((⟨#[32]⟩ : ByteArray) ++ (rdOf ByteArray.empty l1 x6_1))), (wrap64 (x6_1 + 1)), (by first | rfl | (simp; done) | (simp [*]; done)), (by first | rfl | (simp; done) | (simp [*]; done)), H', ⟨by have := HK1.out; omega⟩, by repeat (first | exact Drawn0.refl _ | apply Drawn0.step)⟩
              · rw [if_neg c7] at H
                exact absurd H (by simp)
            · rw [if_neg c6] at H
              exact absurd H (by simp)
          · rw [if_neg c5] at H
            exact absurd H (by simp)
        · rw [if_neg c4] at H
          have c4b0 : decide (x6_1 < (l1.length : Int)) = false := decide_eq_false c4
          clear c4
          by_cases c8 : x5_1.size + 1 ≤ 9223372036854775807
          · rw [if_pos c8] at H
            have c8b0 := eq_true c8
            have c8b1 : decide (x5_1.size + 1 ≤ 9223372036854775807) = true := decide_eq_true c8
            try have c8b2 : (9223372036854775807 < x5_1.size + 1) = False := eq_false (Nat.not_lt.2 c8)
            obtain rfl := Option.some.inj H
            go_wp2
            go_ret
            exact ⟨by first | rfl | (simp; done) | (simp [*]; done), by repeat (first | exact Drawn0.refl _ | apply Drawn0.step)⟩
          · rw [if_neg c8] at H
            exact absurd H (by simp)
  · rw [if_neg c3] at H
    exact absurd H (by simp)
end Go.Proofs.YtbklhcjcgiblkaaGreatDoor.P
end
section
namespace Go.Proofs.YtbklhcjcgiblkaaGreatDoor.P
open Go.RowKit Go.Proofs.YtbklhcjcgiblkaaGreatDoorW.PrintWords Go.Proofs.YtbklhcjcgiblkaaGreatDoorW.PrintLast Go.Proofs.YtbklhcjcgiblkaaGreatDoorW.PrintMore
attribute [local go_sem] max2_int min2_int max_two min_two max_three min_three max_four min_four
set_option linter.unusedVariables false
set_option linter.unusedSimpArgs false
def bellowsref15_Hex.l0 : Nat → Int → ByteArray → Int → Option (ByteArray)
  | 0, _, _, _ => none
  | k + 1, x0, x3, x4 => if x4 < 16 then (if 0 ≤ (Int.tmod x0 16) then (if (Int.tmod x0 16) ≤ (IntKind.u64.wrap ((Int.tmod x0 16) + 1)) then (if (IntKind.u64.wrap ((Int.tmod x0 16) + 1)) ≤ 16 then (if ((⟨#[48, 49, 50, 51, 52, 53, 54, 55, 56, 57, 97, 98, 99, 100, 101, 102]⟩ : ByteArray).extract ((Int.tmod x0 16) : Int).toNat ((IntKind.u64.wrap ((Int.tmod x0 16) + 1)) : Int).toNat).size + x3.size ≤ 9223372036854775807 then (bellowsref15_Hex.l0 k (IntKind.u64.wrap (Int.tdiv x0 16)) (((⟨#[48, 49, 50, 51, 52, 53, 54, 55, 56, 57, 97, 98, 99, 100, 101, 102]⟩ : ByteArray).extract ((Int.tmod x0 16) : Int).toNat ((IntKind.u64.wrap ((Int.tmod x0 16) + 1)) : Int).toNat) ++ x3) (wrap64 (x4 + 1))) else (none)) else (none)) else (none)) else (none)) else (some x3)
def bellowsref15_Hex.f (k : Nat) (a0 : Int) : Option (ByteArray) := bellowsref15_Hex.l0 k a0 (⟨#[]⟩ : ByteArray) 0
theorem bellowsref15_Hex.mono_l : ∀ k, (∀ y0 y1 y2, LeO (bellowsref15_Hex.l0 k y0 y1 y2) (bellowsref15_Hex.l0 (k + 1) y0 y1 y2))
  | 0 => fun _ _ _ r h => by simp [bellowsref15_Hex.l0] at h
  | k + 1 => by
    have ih0 := bellowsref15_Hex.mono_l k
    · intro y0 y1 y2
      unfold bellowsref15_Hex.l0
      repeat' first
      | (with_reducible exact ih0 _ _ _)
      | (with_reducible exact LeO.refl _)
      | (with_reducible exact LeO.none _)
      | (with_reducible refine LeO.ite ?_ ?_)
      | (with_reducible refine LeO.bind ?_ (fun _ => ?_))
      | exact ih0 _ _ _
      | exact LeO.none _
      | refine LeO.ite ?_ ?_
      | refine LeO.bind ?_ (fun _ => ?_)
theorem bellowsref15_Hex.mono : ∀ a0 k, LeO (bellowsref15_Hex.f k a0) (bellowsref15_Hex.f (k + 1) a0) := by
  intro a0 k
  have ih0 := bellowsref15_Hex.mono_l k
  unfold bellowsref15_Hex.f
  repeat' first
      | (with_reducible exact ih0 _ _ _)
      | (with_reducible exact LeO.refl _)
      | (with_reducible exact LeO.none _)
      | (with_reducible refine LeO.ite ?_ ?_)
      | (with_reducible refine LeO.bind ?_ (fun _ => ?_))
      | exact ih0 _ _ _
      | exact LeO.none _
      | refine LeO.ite ?_ ?_
      | refine LeO.bind ?_ (fun _ => ?_)
set_option maxHeartbeats 8000000 in
set_option maxRecDepth 100000 in
theorem bellowsref15_Hex.calls (k : Nat) (a0 : Int) (r : ByteArray) (w : World) (h : bellowsref15_Hex.f k a0 = some r) :
    Calls Tryz.prog 42 #[.int .u64 a0] w fun e w' => e = .returned (.string r) ∧ Drawn0 w w' := by
  have H : (bellowsref15_Hex.l0 k a0 (⟨#[]⟩ : ByteArray) 0) = some r := h
  clear h
  have H' := Aside0.mk H
  clear H
  go_enter Tryz.func42, Tryz.ntmps42
  go_wp2
  go_loopg [0, 3, 4] k (fun kq v0 v3 v4 w' => ∃ (x0_1 : Int) (x3_1 : ByteArray) (x4_1 : Int), v0 = .int .u64 x0_1 ∧ v3 = .string x3_1 ∧ v4 = .int .i64 x4_1 ∧ Aside0 (bellowsref15_Hex.l0 kq x0_1 x3_1 x4_1 = some r) ∧ Aside0 (kq ≤ k) ∧ Drawn0 w w')
  case atStart => exact ⟨(a0), ((⟨#[]⟩ : ByteArray)), (0), (by first | rfl | (simp; done) | (simp [*]; done)), (by first | rfl | (simp; done) | (simp [*]; done)), (by first | rfl | (simp; done) | (simp [*]; done)), H', ⟨Nat.le_refl _⟩, by repeat (first | exact Drawn0.refl _ | apply Drawn0.step)⟩
  case round =>
    clear H'
    obtain ⟨x0_1, x3_1, x4_1, rfl, rfl, rfl, HA, HK1, ⟨m1, rfl⟩⟩ := hrel
    cases gk with
    | zero => exact absurd HA.out (by simp [bellowsref15_Hex.l0])
    | succ k1 =>
      have H := HA.out
      clear HA
      simp only [bellowsref15_Hex.l0] at H
      by_cases c2 : x4_1 < 16
      · rw [if_pos c2] at H
        have c2b0 : decide (x4_1 < 16) = true := decide_eq_true c2
        clear c2
        obtain ⟨ji3, hji3⟩ : ∃ j_ : Int, (Int.tmod x0_1 16) = j_ := ⟨_, rfl⟩
        replace H : (if 0 ≤ (ji3) then (if (ji3) ≤ (IntKind.u64.wrap ((ji3) + 1)) then (if (IntKind.u64.wrap ((ji3) + 1)) ≤ 16 then (if ((⟨#[48, 49, 50, 51, 52, 53, 54, 55, 56, 57, 97, 98, 99, 100, 101, 102]⟩ : ByteArray).extract ((ji3) : Int).toNat ((IntKind.u64.wrap ((ji3) + 1)) : Int).toNat).size + x3_1.size ≤ 9223372036854775807 then (bellowsref15_Hex.l0 k1 (IntKind.u64.wrap (Int.tdiv x0_1 16)) (((⟨#[48, 49, 50, 51, 52, 53, 54, 55, 56, 57, 97, 98, 99, 100, 101, 102]⟩ : ByteArray).extract ((ji3) : Int).toNat ((IntKind.u64.wrap ((ji3) + 1)) : Int).toNat) ++ x3_1) (wrap64 (x4_1 + 1))) else (none)) else (none)) else (none)) else (none)) = some r := by first | (rw [hji3] at H; exact H) | (simp only [hji3] at H ⊢; exact H)
        by_cases c4 : 0 ≤ (ji3)
        · rw [if_pos c4] at H
          have c4b0 := eq_true c4
          have c4b1 : decide (0 ≤ (ji3)) = true := decide_eq_true c4
          clear c4
          by_cases c5 : (ji3) ≤ (IntKind.u64.wrap ((ji3) + 1))
          · rw [if_pos c5] at H
            have c5b0 := eq_true c5
            have c5b1 : decide ((ji3) ≤ (IntKind.u64.wrap ((ji3) + 1))) = true := decide_eq_true c5
            by_cases c6 : (IntKind.u64.wrap ((ji3) + 1)) ≤ 16
            · rw [if_pos c6] at H
              have c6b0 := eq_true c6
              have c6b1 : decide ((IntKind.u64.wrap ((ji3) + 1)) ≤ 16) = true := decide_eq_true c6
              by_cases c7 : ((⟨#[48, 49, 50, 51, 52, 53, 54, 55, 56, 57, 97, 98, 99, 100, 101, 102]⟩ : ByteArray).extract ((ji3) : Int).toNat ((IntKind.u64.wrap ((ji3) + 1)) : Int).toNat).size + x3_1.size ≤ 9223372036854775807
              · rw [if_pos c7] at H
                have c7b0 := eq_true c7
                have c7b1 : decide (((⟨#[48, 49, 50, 51, 52, 53, 54, 55, 56, 57, 97, 98, 99, 100, 101, 102]⟩ : ByteArray).extract ((ji3) : Int).toNat ((IntKind.u64.wrap ((ji3) + 1)) : Int).toNat).size + x3_1.size ≤ 9223372036854775807) = true := decide_eq_true c7
                try have c7b2 : (9223372036854775807 < ((⟨#[48, 49, 50, 51, 52, 53, 54, 55, 56, 57, 97, 98, 99, 100, 101, 102]⟩ : ByteArray).extract ((ji3) : Int).toNat ((IntKind.u64.wrap ((ji3) + 1)) : Int).toNat).size + x3_1.size) = False := eq_false (Nat.not_lt.2 c7)
                have H' := Aside0.mk H
                clear H
                go_wp2
                go_roundg k1
                case measure => have := HK1.out; omega
                case rel => exact ⟨(IntKind.u64.wrap (Int.tdiv x0_1 16)), (((⟨#[48, 49, 50, 51, 52, 53, 54, 55, 56, 57, 97, 98, 99, 100, 101, 102]⟩ : ByteArray).extract ((ji3) : Int).toNat ((IntKind.u64.wrap ((ji3) + 1)) : Int).toNat) ++ x3_1), (wrap64 (x4_1 + 1)), (by first | rfl | (simp; done) | (simp [*]; done)), (by first | rfl | (simp; done) | (simp only [← hji3] <;> (first | rfl | simp)) | (simp [*]; done)), (by first | rfl | (simp; done) | (simp [*]; done)), H', ⟨by have := HK1.out; omega⟩, by repeat (first | exact Drawn0.refl _ | apply Drawn0.step)⟩
              · rw [if_neg c7] at H
                exact absurd H (by simp)
            · rw [if_neg c6] at H
              exact absurd H (by simp)
          · rw [if_neg c5] at H
            exact absurd H (by simp)
        · rw [if_neg c4] at H
          exact absurd H (by simp)
      · rw [if_neg c2] at H
        have c2b0 : decide (x4_1 < 16) = false := decide_eq_false c2
        clear c2
        obtain rfl := Option.some.inj H
        go_wp2
        go_ret
        exact ⟨by first | rfl | (simp; done) | (simp [*]; done), by repeat (first | exact Drawn0.refl _ | apply Drawn0.step)⟩
end Go.Proofs.YtbklhcjcgiblkaaGreatDoor.P
end
section
namespace Go.Proofs.YtbklhcjcgiblkaaGreatDoor.P
open Go.RowKit Go.Proofs.YtbklhcjcgiblkaaGreatDoorW.PrintWords Go.Proofs.YtbklhcjcgiblkaaGreatDoorW.PrintLast Go.Proofs.YtbklhcjcgiblkaaGreatDoorW.PrintMore
attribute [local go_sem] max2_int min2_int max_two min_two max_three min_three max_four min_four
set_option linter.unusedVariables false
set_option linter.unusedSimpArgs false
def bellowsref15_include.f (a0 : ByteArray) : Option (ByteArray × Bool) := if (a0.size : Int) < 9 then (some ((⟨#[]⟩ : ByteArray), false)) else (if 0 ≤ 9 then (if 9 ≤ (a0.size : Int) then (if (a0.extract 0 9).toList = ([35, 105, 110, 99, 108, 117, 100, 101, 32] : List UInt8) then (some (a0.extract 9 a0.size, true)) else (some ((⟨#[]⟩ : ByteArray), false))) else (none)) else (none))
set_option maxHeartbeats 8000000 in
set_option maxRecDepth 100000 in
theorem bellowsref15_include.calls (a0 : ByteArray) (r1 : ByteArray) (r2 : Bool) (w : World) (h : bellowsref15_include.f a0 = some (r1, r2)) :
    Calls Tryz.prog 59 #[.string a0] w fun e w' => e = .returned (.tuple #[.string r1, .bool r2]) ∧ Drawn0 w w' := by
  have H : (if (a0.size : Int) < 9 then (some ((⟨#[]⟩ : ByteArray), false)) else (if 0 ≤ 9 then (if 9 ≤ (a0.size : Int) then (if (a0.extract 0 9).toList = ([35, 105, 110, 99, 108, 117, 100, 101, 32] : List UInt8) then (some (a0.extract 9 a0.size, true)) else (some ((⟨#[]⟩ : ByteArray), false))) else (none)) else (none))) = some (r1, r2) := h
  clear h
  by_cases c2 : (a0.size : Int) < 9
  · rw [if_pos c2] at H
    have c2b0 : decide ((a0.size : Int) < 9) = true := decide_eq_true c2
    have c2b1 : decide (a0.size < 9) = true := decide_eq_true (by omega)
    clear c2
    simp only [Option.some.injEq, Prod.mk.injEq] at H
    obtain ⟨rfl, rfl⟩ := H
    go_enter Tryz.func59, Tryz.ntmps59
    go_wp2
    go_ret2
    exact ⟨by first | rfl | (simp; done) | (simp [*]; done), by repeat (first | exact Drawn0.refl _ | apply Drawn0.step)⟩
  · rw [if_neg c2] at H
    have c2b0 : decide ((a0.size : Int) < 9) = false := decide_eq_false c2
    have c2b1 : decide (a0.size < 9) = false := decide_eq_false (by omega)
    clear c2
    by_cases c3 : 0 ≤ 9
    · rw [if_pos c3] at H
      have c3b0 := eq_true c3
      have c3b1 : decide (0 ≤ 9) = true := decide_eq_true c3
      clear c3
      by_cases c4 : 9 ≤ (a0.size : Int)
      · rw [if_pos c4] at H
        have c4b0 := eq_true c4
        have c4b1 : decide (9 ≤ (a0.size : Int)) = true := decide_eq_true c4
        clear c4
        by_cases c5 : (a0.extract 0 9).toList = ([35, 105, 110, 99, 108, 117, 100, 101, 32] : List UInt8)
        · rw [if_pos c5] at H
          have c5b0 : ((a0.extract 0 9).toList == ([35, 105, 110, 99, 108, 117, 100, 101, 32] : List UInt8)) = true := beq_iff_eq.mpr c5
          have c5b1 : ((a0.extract 0 9).toList != ([35, 105, 110, 99, 108, 117, 100, 101, 32] : List UInt8)) = false := bne_eq_false_iff_eq.mpr c5
          clear c5
          have c6b0 := eq_true (of_decide_eq_true (by first | (with_reducible assumption) | assumption) : 9 ≤ (a0.size : Int))
          simp only [Option.some.injEq, Prod.mk.injEq] at H
          obtain ⟨rfl, rfl⟩ := H
          go_enter Tryz.func59, Tryz.ntmps59
          go_wp2
          go_ret2
          exact ⟨by first | rfl | (simp; done) | (simp [*]; done), by repeat (first | exact Drawn0.refl _ | apply Drawn0.step)⟩
        · rw [if_neg c5] at H
          have c5b0 : ((a0.extract 0 9).toList == ([35, 105, 110, 99, 108, 117, 100, 101, 32] : List UInt8)) = false := beq_eq_false_iff_ne.mpr c5
          have c5b1 : ((a0.extract 0 9).toList != ([35, 105, 110, 99, 108, 117, 100, 101, 32] : List UInt8)) = true := bne_iff_ne.mpr c5
          simp only [Option.some.injEq, Prod.mk.injEq] at H
          obtain ⟨rfl, rfl⟩ := H
          go_enter Tryz.func59, Tryz.ntmps59
          go_wp2
          go_ret2
          exact ⟨by first | rfl | (simp; done) | (simp [*]; done), by repeat (first | exact Drawn0.refl _ | apply Drawn0.step)⟩
      · rw [if_neg c4] at H
        exact absurd H (by simp)
    · rw [if_neg c3] at H
      exact absurd H (by simp)
end Go.Proofs.YtbklhcjcgiblkaaGreatDoor.P
end
section
namespace Go.Proofs.YtbklhcjcgiblkaaGreatDoor.P
open Go.RowKit Go.Proofs.YtbklhcjcgiblkaaGreatDoorW.PrintWords Go.Proofs.YtbklhcjcgiblkaaGreatDoorW.PrintLast Go.Proofs.YtbklhcjcgiblkaaGreatDoorW.PrintMore
attribute [local go_sem] max2_int min2_int max_two min_two max_three min_three max_four min_four
set_option linter.unusedVariables false
set_option linter.unusedSimpArgs false
mutual
def bellowsref15_Words.l0 : Nat → ByteArray → List ByteArray → Int → Int → Option (List ByteArray)
  | 0, _, _, _, _ => none
  | k + 1, x0, x3, x4, x5 => if x5 ≤ (x0.size : Int) then (if x5 = (x0.size : Int) then (bellowsref15_Words.j1 k x0 x3 x4 x5 true) else (if 0 ≤ x5 then (if x5 < (x0.size : Int) then (bellowsref15_Words.j1 k x0 x3 x4 x5 ((bt x0 x5) == 32)) else (none)) else (none))) else (some x3)
def bellowsref15_Words.j1 : Nat → ByteArray → List ByteArray → Int → Int → Bool → Option (List ByteArray)
  | 0, _, _, _, _, _ => none
  | k + 1, x0, x3, x4, x5, x21 => if x21 = true then (if x5 > x4 then (if 0 ≤ x4 then (if x4 ≤ x5 then (if x5 ≤ (x0.size : Int) then (if x3.length < 8796093022208 then (bellowsref15_Words.l0 k x0 (x3 ++ [x0.extract (x4 : Int).toNat (x5 : Int).toNat]) (wrap64 (x5 + 1)) (wrap64 (x5 + 1))) else (none)) else (none)) else (none)) else (none)) else (bellowsref15_Words.l0 k x0 x3 (wrap64 (x5 + 1)) (wrap64 (x5 + 1)))) else (bellowsref15_Words.l0 k x0 x3 x4 (wrap64 (x5 + 1)))
end
def bellowsref15_Words.f (k : Nat) (a0 : ByteArray) : Option (List ByteArray) := bellowsref15_Words.l0 k a0 ([] : List ByteArray) 0 0
theorem bellowsref15_Words.mono_l : ∀ k, (∀ y0 y1 y2 y3, LeO (bellowsref15_Words.l0 k y0 y1 y2 y3) (bellowsref15_Words.l0 (k + 1) y0 y1 y2 y3)) ∧ (∀ y0 y1 y2 y3 y4, LeO (bellowsref15_Words.j1 k y0 y1 y2 y3 y4) (bellowsref15_Words.j1 (k + 1) y0 y1 y2 y3 y4))
  | 0 => ⟨fun _ _ _ _ r h => by simp [bellowsref15_Words.l0] at h, fun _ _ _ _ _ r h => by simp [bellowsref15_Words.j1] at h⟩
  | k + 1 => by
    obtain ⟨ih0, ih1⟩ := bellowsref15_Words.mono_l k
    refine ⟨?_, ?_⟩
    · intro y0 y1 y2 y3
      unfold bellowsref15_Words.l0
      repeat' first
      | (with_reducible exact ih0 _ _ _ _)
      | (with_reducible exact ih1 _ _ _ _ _)
      | (with_reducible exact LeO.refl _)
      | (with_reducible exact LeO.none _)
      | (with_reducible refine LeO.ite ?_ ?_)
      | (with_reducible refine LeO.bind ?_ (fun _ => ?_))
      | exact ih0 _ _ _ _
      | exact ih1 _ _ _ _ _
      | exact LeO.none _
      | refine LeO.ite ?_ ?_
      | refine LeO.bind ?_ (fun _ => ?_)
    · intro y0 y1 y2 y3 y4
      unfold bellowsref15_Words.j1
      repeat' first
      | (with_reducible exact ih0 _ _ _ _)
      | (with_reducible exact ih1 _ _ _ _ _)
      | (with_reducible exact LeO.refl _)
      | (with_reducible exact LeO.none _)
      | (with_reducible refine LeO.ite ?_ ?_)
      | (with_reducible refine LeO.bind ?_ (fun _ => ?_))
      | exact ih0 _ _ _ _
      | exact ih1 _ _ _ _ _
      | exact LeO.none _
      | refine LeO.ite ?_ ?_
      | refine LeO.bind ?_ (fun _ => ?_)
theorem bellowsref15_Words.mono : ∀ a0 k, LeO (bellowsref15_Words.f k a0) (bellowsref15_Words.f (k + 1) a0) := by
  intro a0 k
  obtain ⟨ih0, ih1⟩ := bellowsref15_Words.mono_l k
  unfold bellowsref15_Words.f
  repeat' first
      | (with_reducible exact ih0 _ _ _ _)
      | (with_reducible exact ih1 _ _ _ _ _)
      | (with_reducible exact LeO.refl _)
      | (with_reducible exact LeO.none _)
      | (with_reducible refine LeO.ite ?_ ?_)
      | (with_reducible refine LeO.bind ?_ (fun _ => ?_))
      | exact ih0 _ _ _ _
      | exact ih1 _ _ _ _ _
      | exact LeO.none _
      | refine LeO.ite ?_ ?_
      | refine LeO.bind ?_ (fun _ => ?_)
set_option maxHeartbeats 8000000 in
set_option maxRecDepth 100000 in
theorem bellowsref15_Words.calls (k : Nat) (a0 : ByteArray) (r : List ByteArray) (w : World) (h : bellowsref15_Words.f k a0 = some r) :
    Calls Tryz.prog 8 #[.string a0] w fun e w' => ∃ v0_ : Value, e = .returned (v0_) ∧ Kd.R Kd.string 9 w' w.heap.size (fun _ => True) v0_ r ∧ Below w.heap.size w w' := by
  have HB := Aside0.mk (Below.refl w.heap.size w)
  have H : (bellowsref15_Words.l0 k a0 ([] : List ByteArray) 0 0) = some r := h
  clear h
  have H' := Aside0.mk H
  clear H
  go_enter Tryz.func8, Tryz.ntmps8
  go_wp2
  go_loopg [3, 4, 5] k (fun kq v3 v4 v5 w' => ∃ (x3_1 : List ByteArray) (x4_1 : Int) (x5_1 : Int), v4 = .int .i64 x4_1 ∧ v5 = .int .i64 x5_1 ∧ Aside0 (bellowsref15_Words.l0 kq a0 x3_1 x4_1 x5_1 = some r) ∧ Aside0 (kq ≤ k) ∧ Aside0 (Kd.R Kd.string 9 w' w.heap.size (fun _ => True) v3 x3_1) ∧ Aside0 (Below w.heap.size w w'))
  case atStart => exact ⟨(([] : List ByteArray)), (0), (0), (by first | rfl | (simp; done) | (simp [*]; done)), (by first | rfl | (simp; done) | (simp [*]; done)), H', ⟨Nat.le_refl _⟩, ⟨by first | exact Kd.R_nil _ _ _ _ _ | exact Kd.N_nil _ _ _ _ _ | exact Kd.V_nil _ _ _ _ _ | exact Kd.Q_nil _ _ _ _ _ | exact Kd.S_nil _ _ _ _ _⟩, ⟨by repeat (first | (with_reducible first | exact HB.out | apply below_alloc | apply pw_below_drewN | apply below_drew1) | exact HB.out)⟩⟩
  case round =>
    clear H'
    obtain ⟨x3_1, x4_1, x5_1, rfl, rfl, HA, HK1, HO_3, HB⟩ := hrel
    cases gk with
    | zero => exact absurd HA.out (by simp [bellowsref15_Words.l0])
    | succ k1 =>
      have H := HA.out
      clear HA
      simp only [bellowsref15_Words.l0] at H
      by_cases c2 : x5_1 ≤ (a0.size : Int)
      · rw [if_pos c2] at H
        have c2b0 : decide (x5_1 ≤ (a0.size : Int)) = true := decide_eq_true c2
        clear c2
        have HC3 := Aside0.mk H
        clear H
        go_upto_region 6 with (fail)
        go_cut [21] (fun v21 wc => ∃ (kq : Nat) (x21_2 : Bool), v21 = .bool x21_2 ∧ Aside0 (bellowsref15_Words.j1 kq a0 x3_1 x4_1 x5_1 x21_2 = some r) ∧ Aside0 (kq ≤ k1) ∧ Aside0 (Kd.R Kd.string 9 wc w.heap.size (fun _ => True) u3 x3_1) ∧ Aside0 (Below w.heap.size w wc))
        case first =>
          have H := HC3.out
          clear HC3
          by_cases c4 : x5_1 = (a0.size : Int)
          · rw [if_pos c4] at H
            have c4b0 : (x5_1 == (a0.size : Int)) = true := beq_iff_eq.mpr c4
            have c4b1 : (x5_1 != (a0.size : Int)) = false := bne_eq_false_iff_eq.mpr c4
            clear c4
            (first | rw [c4b0] | (simp only [i64_w, i32_w]; rw [c4b0]) | skip)
            have H' := Aside0.mk H
            clear H
            go_wp2
            go_meet
            case rel => exact ⟨_, (true), (by first | rfl | (simp; done) | (simp [*]; done)), H', ⟨by have := HK1.out; first | omega | exact Nat.le_refl _⟩, ⟨by (with_reducible repeat (first | apply Kd.R_alloc | apply Kd.R_drewN | apply Kd.R_drew)); exact HO_3.out⟩, ⟨by repeat (first | (with_reducible first | exact HB.out | apply below_alloc | apply pw_below_drewN | apply below_drew1) | exact HB.out)⟩⟩
          · rw [if_neg c4] at H
            have c4b0 : (x5_1 == (a0.size : Int)) = false := beq_eq_false_iff_ne.mpr c4
            have c4b1 : (x5_1 != (a0.size : Int)) = true := bne_iff_ne.mpr c4
            (first | rw [c4b0] | (simp only [i64_w, i32_w]; rw [c4b0]) | skip)
            by_cases c5 : 0 ≤ x5_1
            · rw [if_pos c5] at H
              have c5b0 : decide (0 ≤ x5_1) = true := decide_eq_true c5
              clear c5
              by_cases c6 : x5_1 < (a0.size : Int)
              · rw [if_pos c6] at H
                have c6b0 : decide (x5_1 < (a0.size : Int)) = true := decide_eq_true c6
                clear c6
                have H' := Aside0.mk H
                clear H
                have p7 : 0 ≤ (x5_1 : Int) := of_decide_eq_true (by first | (with_reducible assumption) | assumption)
                have q7 : x5_1 < (a0.size : Int) := of_decide_eq_true (by first | (with_reducible assumption) | assumption)
                have hx7 := bt_at a0 x5_1
                replace p7 := eq_true p7
                replace q7 := eq_true q7
                go_wp2
                go_meet
                case rel => exact ⟨_, (((bt a0 x5_1) == 32)), (by first | rfl | (simp; done) | (simp [*]; done)), H', ⟨by have := HK1.out; first | omega | exact Nat.le_refl _⟩, ⟨by (with_reducible repeat (first | apply Kd.R_alloc | apply Kd.R_drewN | apply Kd.R_drew)); exact HO_3.out⟩, ⟨by repeat (first | (with_reducible first | exact HB.out | apply below_alloc | apply pw_below_drewN | apply below_drew1) | exact HB.out)⟩⟩
              · rw [if_neg c6] at H
                exact absurd H (by simp)
            · rw [if_neg c5] at H
              exact absurd H (by simp)
        case rest =>
          clear HC3
          try clear c2
          try clear c2b0
          try clear p2
          try clear c4
          try clear c4b0
          try clear c4b1
          try clear c5
          try clear c5b0
          try clear c6
          try clear c6b0
          try clear p7
          try clear q7
          try clear hx7
          try clear p7
          try clear q7
          obtain ⟨kq, x21_2, rfl, HA, HJ2, HO_3, HB⟩ := hcut
          cases kq with
          | zero => exact absurd HA.out (by simp [bellowsref15_Words.j1])
          | succ kj2 =>
            have H := HA.out
            clear HA
            simp only [bellowsref15_Words.j1] at H
            by_cases c8 : x21_2 = true
            · subst c8
              have H1 : (if x5_1 > x4_1 then (if 0 ≤ x4_1 then (if x4_1 ≤ x5_1 then (if x5_1 ≤ (a0.size : Int) then (if x3_1.length < 8796093022208 then (bellowsref15_Words.l0 kj2 a0 (x3_1 ++ [a0.extract (x4_1 : Int).toNat (x5_1 : Int).toNat]) (wrap64 (x5_1 + 1)) (wrap64 (x5_1 + 1))) else (none)) else (none)) else (none)) else (none)) else (bellowsref15_Words.l0 kj2 a0 x3_1 (wrap64 (x5_1 + 1)) (wrap64 (x5_1 + 1)))) = some r := by rw [if_pos rfl] at H; exact H
              clear H
              have H := H1
              clear H1
              by_cases c9 : x5_1 > x4_1
              · rw [if_pos c9] at H
                have c9b0 : decide (x4_1 < x5_1) = true := decide_eq_true c9
                clear c9
                by_cases c10 : 0 ≤ x4_1
                · rw [if_pos c10] at H
                  have c10b0 := eq_true c10
                  have c10b1 : decide (0 ≤ x4_1) = true := decide_eq_true c10
                  clear c10
                  by_cases c11 : x4_1 ≤ x5_1
                  · rw [if_pos c11] at H
                    have c11b0 := eq_true c11
                    have c11b1 : decide (x4_1 ≤ x5_1) = true := decide_eq_true c11
                    clear c11
                    by_cases c12 : x5_1 ≤ (a0.size : Int)
                    · rw [if_pos c12] at H
                      have c12b0 := eq_true c12
                      have c12b1 : decide (x5_1 ≤ (a0.size : Int)) = true := decide_eq_true c12
                      clear c12
                      by_cases c13 : x3_1.length < 8796093022208
                      · rw [if_pos c13] at H
                        have LMc13 := Aside0.mk c13
                        clear c13
                        obtain ⟨y114, hy114⟩ : ∃ y_ : List ByteArray, y_ = (x3_1 ++ [a0.extract (x4_1 : Int).toNat (x5_1 : Int).toNat]) := ⟨_, rfl⟩
                        replace H : (bellowsref15_Words.l0 kj2 a0 y114 (wrap64 (x5_1 + 1)) (wrap64 (x5_1 + 1))) = some r := by first | (rw [hy114]; with_reducible exact H) | (have H2_ := (Option.bind_some _ _).symm.trans H; rw [hy114]; with_reducible exact H2_) | (have H2_ := (Option.bind_some _ _).symm.trans H; with_reducible exact H2_) | with_reducible exact H | (rw [hy114]; exact H) | exact H
                        have Ny114 := Aside0.mk hy114
                        clear hy114
                        have H' := Aside0.mk H
                        clear H
                        go_wp2_with (first | ((with_reducible refine gate_builtin (b := .append) (xs := #[.tmp 25, .tmp 30]) rfl ?_); at_builtin; refine Kd.R_append Kd.string (w0 := w) w.heap.size rfl (.tmp 25) (.tmp 30) 22 9 (.string ⟨#[]⟩) 16 rfl Tryz.underlying22 info9 rfl (by decide) (by omega) u3 x3_1 (a0.extract (x4_1 : Int).toNat (x5_1 : Int).toNat) [.string (a0.extract (x4_1 : Int).toNat (x5_1 : Int).toNat)] (fun _ => True) (fun _ => False) rfl rfl ?aP (fun _ hk => hk.elim) ?aF ?aO ?aB ?aS ?aL ?_; (case aP => exact rfl); (case aB => exact (by repeat (first | (with_reducible first | exact HB.out | apply below_alloc | apply pw_below_drewN | apply below_drew1) | exact HB.out))); (case aF => exact (fun _ _ => trivial)); (case aO => exact (by (with_reducible repeat (first | apply Kd.R_alloc | apply Kd.R_drewN | apply Kd.R_drew)); exact HO_3.out)); (case aS => exact (below_size (by repeat (first | (with_reducible first | exact HB.out | apply below_alloc | apply pw_below_drewN | apply below_drew1) | exact HB.out)))); (case aL => have := LMc13.out; omega); intro v115 w14 ho hb hg hat; rw [← Ny114.out] at ho; have n0_ := Aside0.mk (hb); have n1_ := Aside0.mk (ho); clear HB; clear HO_3; have HB := n0_; have HO116 := n1_; clear n0_ n1_; clear ho hb hg hat))
                        go_roundg kj2
                        case measure => have := HK1.out; have := HJ2.out; omega
                        case rel => exact ⟨(y114), (wrap64 (x5_1 + 1)), (wrap64 (x5_1 + 1)), (by first | rfl | (simp; done) | (simp [*]; done)), (by first | rfl | (simp; done) | (simp [*]; done)), H', ⟨by have := HK1.out; have := HJ2.out; omega⟩, ⟨by (with_reducible repeat (first | apply Kd.R_alloc | apply Kd.R_drewN | apply Kd.R_drew)); exact HO116.out⟩, ⟨by repeat (first | (with_reducible first | exact HB.out | apply below_alloc | apply pw_below_drewN | apply below_drew1) | exact HB.out)⟩⟩
                      · rw [if_neg c13] at H
                        exact absurd H (by simp)
                    · rw [if_neg c12] at H
                      exact absurd H (by simp)
                  · rw [if_neg c11] at H
                    exact absurd H (by simp)
                · rw [if_neg c10] at H
                  exact absurd H (by simp)
              · rw [if_neg c9] at H
                have c9b0 : decide (x4_1 < x5_1) = false := decide_eq_false c9
                clear c9
                have H' := Aside0.mk H
                clear H
                go_wp2
                go_roundg kj2
                case measure => have := HK1.out; have := HJ2.out; omega
                case rel => exact ⟨(x3_1), (wrap64 (x5_1 + 1)), (wrap64 (x5_1 + 1)), (by first | rfl | (simp; done) | (simp [*]; done)), (by first | rfl | (simp; done) | (simp [*]; done)), H', ⟨by have := HK1.out; have := HJ2.out; omega⟩, ⟨by (with_reducible repeat (first | apply Kd.R_alloc | apply Kd.R_drewN | apply Kd.R_drew)); exact HO_3.out⟩, ⟨by repeat (first | (with_reducible first | exact HB.out | apply below_alloc | apply pw_below_drewN | apply below_drew1) | exact HB.out)⟩⟩
            · replace c8 := Bool.eq_false_iff.mpr c8
              subst c8
              have H1 : (bellowsref15_Words.l0 kj2 a0 x3_1 x4_1 (wrap64 (x5_1 + 1))) = some r := by rw [if_neg (show ¬ (false = true) by decide)] at H; exact H
              clear H
              have H := H1
              clear H1
              have H' := Aside0.mk H
              clear H
              go_wp2
              go_roundg kj2
              case measure => have := HK1.out; have := HJ2.out; omega
              case rel => exact ⟨(x3_1), (x4_1), (wrap64 (x5_1 + 1)), (by first | rfl | (simp; done) | (simp [*]; done)), (by first | rfl | (simp; done) | (simp [*]; done)), H', ⟨by have := HK1.out; have := HJ2.out; omega⟩, ⟨by (with_reducible repeat (first | apply Kd.R_alloc | apply Kd.R_drewN | apply Kd.R_drew)); exact HO_3.out⟩, ⟨by repeat (first | (with_reducible first | exact HB.out | apply below_alloc | apply pw_below_drewN | apply below_drew1) | exact HB.out)⟩⟩
      · rw [if_neg c2] at H
        have c2b0 : decide (x5_1 ≤ (a0.size : Int)) = false := decide_eq_false c2
        clear c2
        obtain rfl := Option.some.inj H
        go_wp2
        go_ret
        exact ⟨_, by first | rfl | (simp [errW_none, errW_some] <;> rfl) | (simp [*, errW_none, errW_some] <;> rfl), by (with_reducible repeat (first | apply Kd.R_alloc | apply Kd.R_drewN | apply Kd.R_drew)); exact HO_3.out, by repeat (first | (with_reducible first | exact HB.out | apply below_alloc | apply pw_below_drewN | apply below_drew1) | exact HB.out)⟩
end Go.Proofs.YtbklhcjcgiblkaaGreatDoor.P
end
section
namespace Go.Proofs.YtbklhcjcgiblkaaGreatDoor.P
open Go.RowKit Go.Proofs.YtbklhcjcgiblkaaGreatDoorW.PrintWords Go.Proofs.YtbklhcjcgiblkaaGreatDoorW.PrintLast Go.Proofs.YtbklhcjcgiblkaaGreatDoorW.PrintMore
attribute [local go_sem] max2_int min2_int max_two min_two max_three min_three max_four min_four
set_option linter.unusedVariables false
set_option linter.unusedSimpArgs false
def bellowsref01_Hash.l0 : Nat → List Int → Int → Int → Option (Int)
  | 0, _, _, _ => none
  | k + 1, x0, x3, x4 => if x4 < (x0.length : Int) then (if 0 ≤ x4 then (bellowsref01_Hash.l0 k x0 (IntKind.u64.wrap ((IntKind.u64.wrap ((IntKind.u64.wrap (x3 - (Int.tmod x3 256))) + (Go.bits .xor .u64 (Int.tmod x3 256) (IntKind.u64.wrap (rd x0 x4))))) * 1099511628211)) (wrap64 (x4 + 1))) else (none)) else (some x3)
def bellowsref01_Hash.f (k : Nat) (l0 : List Int) : Option (Int) := bellowsref01_Hash.l0 k l0 14695981039346656037 0
theorem bellowsref01_Hash.mono_l : ∀ k, (∀ y0 y1 y2, LeO (bellowsref01_Hash.l0 k y0 y1 y2) (bellowsref01_Hash.l0 (k + 1) y0 y1 y2))
  | 0 => fun _ _ _ r h => by simp [bellowsref01_Hash.l0] at h
  | k + 1 => by
    have ih0 := bellowsref01_Hash.mono_l k
    · intro y0 y1 y2
      unfold bellowsref01_Hash.l0
      repeat' first
      | (with_reducible exact ih0 _ _ _)
      | (with_reducible exact LeO.refl _)
      | (with_reducible exact LeO.none _)
      | (with_reducible refine LeO.ite ?_ ?_)
      | (with_reducible refine LeO.bind ?_ (fun _ => ?_))
      | exact ih0 _ _ _
      | exact LeO.none _
      | refine LeO.ite ?_ ?_
      | refine LeO.bind ?_ (fun _ => ?_)
theorem bellowsref01_Hash.mono : ∀ a0 k, LeO (bellowsref01_Hash.f k a0) (bellowsref01_Hash.f (k + 1) a0) := by
  intro a0 k
  have ih0 := bellowsref01_Hash.mono_l k
  unfold bellowsref01_Hash.f
  repeat' first
      | (with_reducible exact ih0 _ _ _)
      | (with_reducible exact LeO.refl _)
      | (with_reducible exact LeO.none _)
      | (with_reducible refine LeO.ite ?_ ?_)
      | (with_reducible refine LeO.bind ?_ (fun _ => ?_))
      | exact ih0 _ _ _
      | exact LeO.none _
      | refine LeO.ite ?_ ?_
      | refine LeO.bind ?_ (fun _ => ?_)
set_option maxHeartbeats 8000000 in
set_option maxRecDepth 100000 in
theorem bellowsref01_Hash.calls (k : Nat) (A0 : Option Addr) (c0 : Nat) (l0 : List Int) (r : Int) (w : World) (hr0 : Kd.C (Kd.int .u8) w A0 l0.length l0) (hc0 : l0.length ≤ c0) (h : bellowsref01_Hash.f k l0 = some r) :
    Calls Tryz.prog 43 #[.slice A0 l0.length c0] w fun e w' => e = .returned (.int .u64 r) ∧ Drawn0 w w' := by
  have HR0 := Aside0.mk hr0
  have HC0 := Aside0.mk hc0
  clear hr0 hc0
  have H : (bellowsref01_Hash.l0 k l0 14695981039346656037 0) = some r := h
  clear h
  have H' := Aside0.mk H
  clear H
  go_enter Tryz.func43, Tryz.ntmps43
  go_wp2
  go_loopg [3, 4] k (fun kq v3 v4 w' => ∃ (x3_1 : Int) (x4_1 : Int), v3 = .int .u64 x3_1 ∧ v4 = .int .i64 x4_1 ∧ Aside0 (bellowsref01_Hash.l0 kq l0 x3_1 x4_1 = some r) ∧ Aside0 (kq ≤ k) ∧ Drawn0 w w')
  case atStart => exact ⟨(14695981039346656037), (0), (by first | rfl | (simp; done) | (simp [*]; done)), (by first | rfl | (simp; done) | (simp [*]; done)), H', ⟨Nat.le_refl _⟩, by repeat (first | exact Drawn0.refl _ | apply Drawn0.step)⟩
  case round =>
    clear H'
    obtain ⟨x3_1, x4_1, rfl, rfl, HA, HK1, ⟨m1, rfl⟩⟩ := hrel
    cases gk with
    | zero => exact absurd HA.out (by simp [bellowsref01_Hash.l0])
    | succ k1 =>
      have H := HA.out
      clear HA
      simp only [bellowsref01_Hash.l0] at H
      by_cases c2 : x4_1 < (l0.length : Int)
      · rw [if_pos c2] at H
        have c2b0 : decide (x4_1 < (l0.length : Int)) = true := decide_eq_true c2
        clear c2
        by_cases c3 : 0 ≤ x4_1
        · rw [if_pos c3] at H
          have c3b0 : decide (0 ≤ x4_1) = true := decide_eq_true c3
          clear c3
          have H' := Aside0.mk H
          clear H
          have p182 : 0 ≤ (x4_1 : Int) := of_decide_eq_true (by first | (with_reducible assumption) | assumption)
          have q182 : x4_1 < (l0.length : Int) := of_decide_eq_true (by first | (with_reducible assumption) | assumption)
          obtain ⟨ad182, e182, hx182_0⟩ := Kd.at_int HR0.out x4_1 p182 q182
          cases e182
          replace p182 := eq_true p182
          replace q182 := eq_true q182
          go_wp2
          go_roundg k1
          case measure => have := HK1.out; omega
          case rel => exact ⟨(IntKind.u64.wrap ((IntKind.u64.wrap ((IntKind.u64.wrap (x3_1 - (Int.tmod x3_1 256))) + (Go.bits .xor .u64 (Int.tmod x3_1 256) (IntKind.u64.wrap (rd l0 x4_1))))) * 1099511628211)), (wrap64 (x4_1 + 1)), (by first | rfl | (simp; done) | (simp [*]; done)), (by first | rfl | (simp; done) | (simp [*]; done)), H', ⟨by have := HK1.out; omega⟩, by repeat (first | exact Drawn0.refl _ | apply Drawn0.step)⟩
        · rw [if_neg c3] at H
          exact absurd H (by simp)
      · rw [if_neg c2] at H
        have c2b0 : decide (x4_1 < (l0.length : Int)) = false := decide_eq_false c2
        clear c2
        obtain rfl := Option.some.inj H
        go_wp2
        go_ret
        exact ⟨by first | rfl | (simp; done) | (simp [*]; done), by repeat (first | exact Drawn0.refl _ | apply Drawn0.step)⟩
end Go.Proofs.YtbklhcjcgiblkaaGreatDoor.P
end
section
set_option linter.unusedSimpArgs false
set_option linter.unusedVariables false
namespace Go.Proofs.YtbklhcjcgiblkaaGreatDoor.Ck
open Go.RowKit Go.Lib Go.Shelf Go.Maps Go.Proofs.YtbklhcjcgiblkaaGreatDoorW.PrintWords Go.Proofs.YtbklhcjcgiblkaaGreatDoorW.PrintLast Go.Proofs.YtbklhcjcgiblkaaGreatDoorW.PrintMore Go.Proofs.YtbklhcjcgiblkaaGreatDoor.U Go.Proofs.YtbklhcjcgiblkaaGreatDoor.P Go.Proofs.YtbklhcjcgiblkaaGreatDoor.PTh Go.Proofs.YtbklhcjcgiblkaaGreatDoor.MapV
open Go.Proofs.YtbklhcjcgiblkaaGreatDoor.Fld (fieldsT fieldsGo flushF)
theorem words_ev (r : Txt) : ∀ (p u : Txt) (xs : List ByteArray), p.length + u.length + r.length < 60000 → xs.length + u.length + r.length < 60000 →
    Ev (fun k => bellowsref15_Words.l0 k (B (p ++ u ++ r)) xs (p.length : Int) ((p.length + u.length : Nat) : Int)) (xs ++ (fieldsGo u r).map B) := by
  induction r with
  | nil =>
    intro p u xs hl hx
    simp only [List.length_nil] at hl hx
    have h1 : ((p.length + u.length : Nat) : Int) ≤ ((B (p ++ u ++ [])).size : Int) := by rw [size_B]; simp
    have h2 : ((p.length + u.length : Nat) : Int) = ((B (p ++ u ++ [])).size : Int) := by rw [size_B]; simp
    refine Ev.unroll ?_
    simp only [bellowsref15_Words.l0, if_pos h1, if_pos h2]
    refine Ev.unroll ?_
    have hw := wrap_succ (p.length + u.length) (by omega)
    simp only [bellowsref15_Words.j1, if_true, hw]
    have h9 : ¬ (((p.length + u.length + 1 : Nat) : Int) ≤ ((B (p ++ u ++ [])).size : Int)) := by rw [size_B]; simp; omega
    by_cases hu : u = []
    · subst hu
      have h3 : ¬ (((p.length + ([] : Txt).length : Nat) : Int) > (p.length : Int)) := by simp
      simp only [if_neg h3]
      refine Ev.unroll ?_
      simp only [bellowsref15_Words.l0, if_neg h9]
      exact Ev.eqn (Ev.now _) (by simp [fieldsGo, flushF])
    · have hul := List.length_pos_iff.2 hu
      have h3 : (((p.length + u.length : Nat) : Int) > (p.length : Int)) := by omega
      have h4 : (0 : Int) ≤ (p.length : Int) := by omega
      have h5 : (p.length : Int) ≤ ((p.length + u.length : Nat) : Int) := by omega
      have h6 : xs.length < 8796093022208 := by omega
      simp only [if_pos h3, if_pos h4, if_pos h5, if_pos h1, if_pos h6]
      refine Ev.unroll ?_
      simp only [bellowsref15_Words.l0, if_neg h9]
      refine Ev.eqn (Ev.now _) ?_
      have hex : (B (p ++ u ++ [])).extract (p.length : Int).toNat ((p.length + u.length : Nat) : Int).toNat = B u := by
        rw [extract_B, Int.toNat_natCast, Int.toNat_natCast, List.append_nil, List.take_of_length_le (by simp)]; simp
      rw [hex]
      simp [fieldsGo, flushF, hu]
  | cons c r ih =>
    intro p u xs hl hx
    simp only [List.length_cons] at hl hx
    have h1 : ((p.length + u.length : Nat) : Int) ≤ ((B (p ++ u ++ c :: r)).size : Int) := by rw [size_B]; simp; omega
    have h2 : ¬ (((p.length + u.length : Nat) : Int) = ((B (p ++ u ++ c :: r)).size : Int)) := by rw [size_B]; simp; omega
    have h3 : (0 : Int) ≤ ((p.length + u.length : Nat) : Int) := by omega
    have h4 : ((p.length + u.length : Nat) : Int) < ((B (p ++ u ++ c :: r)).size : Int) := by rw [size_B]; simp; omega
    have hlen : (p ++ u).length = p.length + u.length := by simp
    have hb : bt (B (p ++ u ++ c :: r)) ((p.length + u.length : Nat) : Int) = (c.toNat : Int) := by rw [← hlen, bt_mid]
    have hw := wrap_succ (p.length + u.length) (by omega)
    refine Ev.unroll ?_
    simp only [bellowsref15_Words.l0, if_pos h1, if_neg h2, if_pos h3, if_pos h4, hb]
    refine Ev.unroll ?_
    by_cases hc : c = 32
    · have hcb : ((c.toNat : Int) == 32) = true := by rw [hc]; rfl
      have e1 : p ++ u ++ c :: r = (p ++ u ++ [c]) ++ [] ++ r := by simp
      have hl1 : (p ++ u ++ [c]).length = p.length + u.length + 1 := by simp only [List.length_append, List.length_cons, List.length_nil]
      simp only [bellowsref15_Words.j1, hcb, if_true, hw]
      by_cases hu : u = []
      · subst hu
        have h5 : ¬ (((p.length + ([] : Txt).length : Nat) : Int) > (p.length : Int)) := by simp
        simp only [if_neg h5]
        have := ih (p ++ [] ++ [c]) [] xs (by rw [hl1]; simp at hl ⊢; omega) (by simp at hx ⊢; omega)
        rw [hl1] at this
        rw [e1]
        refine Ev.eqn this ?_
        rw [fieldsGo.eq_2, if_pos hc]; simp [flushF]
      · have hul := List.length_pos_iff.2 hu
        have h5 : (((p.length + u.length : Nat) : Int) > (p.length : Int)) := by omega
        have h6 : (0 : Int) ≤ (p.length : Int) := by omega
        have h7 : (p.length : Int) ≤ ((p.length + u.length : Nat) : Int) := by omega
        have h8 : xs.length < 8796093022208 := by omega
        have hex : (B (p ++ u ++ c :: r)).extract (p.length : Int).toNat ((p.length + u.length : Nat) : Int).toNat = B u := by
          rw [extract_B, Int.toNat_natCast, Int.toNat_natCast, List.take_left' hlen]; simp
        simp only [if_pos h5, if_pos h6, if_pos h7, if_pos h1, if_pos h8, hex]
        have := ih (p ++ u ++ [c]) [] (xs ++ [B u]) (by rw [hl1]; simp; omega) (by simp; omega)
        rw [hl1] at this
        rw [e1]
        refine Ev.eqn this ?_
        rw [fieldsGo.eq_2, if_pos hc]; simp [flushF, hu]
    · have hcb : ((c.toNat : Int) == 32) = false := by rw [beq_eq_false_iff_ne]; exact byte_ne (d := 32) hc
      simp only [bellowsref15_Words.j1, hcb, Bool.false_eq_true, if_false, hw]
      have := ih p (u ++ [c]) xs (by simp; omega) (by simp; omega)
      have e1 : p ++ (u ++ [c]) ++ r = p ++ u ++ c :: r := by simp
      have e2 : p.length + (u ++ [c]).length = p.length + u.length + 1 := by simp; omega
      rw [e1, e2] at this
      refine Ev.eqn this ?_
      rw [fieldsGo.eq_2, if_neg hc]
theorem Words_any (l : Txt) (hl : l.length ≤ 1000) (w : World) : Calls Tryz.prog 8 #[.string (B l)] w fun e w' => ∃ v, e = .returned v ∧ w'.ownsRow w.heap.size 9 1 v (fieldsT l).length (strs (fieldsT l)) ∧ Below w.heap.size w w' := by
  obtain ⟨k, hk⟩ := words_ev l [] [] [] (by simp; omega) (by simp; omega)
  refine (bellowsref15_Words.calls k (B l) ((fieldsT l).map B) w (hk k (Nat.le_refl _))).mono ?_
  rintro e w' ⟨v, rfl, hR, hb⟩
  have he : encs Value.string ((fieldsT l).map B) = strs (fieldsT l) := by
    induction fieldsT l with
    | nil => rfl
    | cons x xs ih => simp only [encs, strs, List.map_cons] at ih ⊢; rw [ih]
  have ho := Kd.own_of_R (enc := Value.string) hR
  rw [he, List.length_map] at ho
  exact ⟨v, rfl, ho, hb⟩
theorem include_any (l : Txt) (w : World) : Calls Tryz.prog 59 #[.string (B l)] w fun e w' => e = .returned (.tuple #[.string (B (if kInclude.isPrefixOf l then l.drop 9 else [])), .bool (kInclude.isPrefixOf l)]) ∧ Below w.heap.size w w' := by
  have hF : bellowsref15_include.f (B l) = some (B (if kInclude.isPrefixOf l then l.drop 9 else []), kInclude.isPrefixOf l) := by
    unfold bellowsref15_include.f
    by_cases h9 : l.length < 9
    · have h1 : ((B l).size : Int) < 9 := by rw [size_B]; omega
      have hp : kInclude.isPrefixOf l = false := by
        rw [Bool.eq_false_iff]
        intro h
        have := (List.isPrefixOf_iff_prefix.1 h).length_le
        simp [kInclude] at this
        omega
      rw [if_pos h1, hp]; rfl
    · have h1 : ¬ ((B l).size : Int) < 9 := by rw [size_B]; omega
      have h2 : (9 : Int) ≤ ((B l).size : Int) := by rw [size_B]; omega
      have e1 : ((B l).extract 0 9).toList = l.take 9 := by rw [extract_B, toList_B, List.drop_zero]
      have e2 : (B l).extract 9 (B l).size = B (l.drop 9) := by rw [size_B, extract_B, List.take_length]
      rw [if_neg h1, if_pos (by decide), if_pos h2, e1, e2]
      by_cases hk : l.take 9 = ([35, 105, 110, 99, 108, 117, 100, 101, 32] : Txt)
      · have hp : kInclude.isPrefixOf l = true := by
          rw [List.isPrefixOf_iff_prefix, List.prefix_iff_eq_take]
          exact hk.symm
        rw [if_pos hk, hp]; rfl
      · have hp : kInclude.isPrefixOf l = false := by
          rw [Bool.eq_false_iff]
          intro h
          rw [List.isPrefixOf_iff_prefix, List.prefix_iff_eq_take] at h
          exact hk h.symm
        rw [if_neg hk, hp]; rfl
  refine (bellowsref15_include.calls (B l) _ _ w hF).mono ?_
  rintro e w' ⟨rfl, hd⟩
  exact ⟨rfl, hd.below⟩
theorem in_ev (acc : List Txt) (c : Txt) (hn : acc.length < 100000) (d : Nat) : ∀ i : Nat, i + d = acc.length → Ev (fun k => bellowsref13_In.l0 k (acc.map B) (B c) (i : Int)) (decide (c ∈ acc.drop i)) := by
  induction d with
  | zero =>
    intro i hi
    refine Ev.unroll (Ev.some fun k => ?_)
    rw [bellowsref13_In.l0, if_neg (by rw [List.length_map]; omega), List.drop_of_length_le (by omega)]
    simp
  | succ d ih =>
    intro i hi
    have hin : i < acc.length := by omega
    have hr := ih (i + 1) (by omega)
    have hw := wrapH i (by omega)
    have hrd : rdOf ByteArray.empty (acc.map B) (i : Int) = B acc[i] := by rw [rdOf_B _ _ (by simpa using hin)]; simp
    have hd : acc.drop i = acc[i] :: acc.drop (i + 1) := List.drop_eq_getElem_cons hin
    refine Ev.unroll ?_
    have e : (fun k => bellowsref13_In.l0 (k + 1) (acc.map B) (B c) (i : Int)) = fun k => if acc[i] = c then some true else bellowsref13_In.l0 k (acc.map B) (B c) ((i + 1 : Nat) : Int) := by
      funext k
      rw [bellowsref13_In.l0, if_pos (by rw [List.length_map]; omega), if_pos (by omega), hrd, toList_B, toList_B, hw.out]
    rw [e, hd]
    by_cases h : acc[i] = c
    · simp only [h, if_true]; simp; exact Ev.now _
    · simp only [h, if_false]
      refine Ev.eqn hr ?_
      have h' : ¬ c = acc[i] := fun e => h e.symm
      rw [decide_eq_decide, List.mem_cons]
      exact ⟨.inr, fun hq => hq.resolve_left h'⟩
theorem In_C (A : Option Addr) (cp : Nat) (acc : List Txt) (c : Txt) (W : World) (hn : acc.length < 100000) (hC : Kd.C Kd.string W A acc.length (acc.map B)) (hle : acc.length ≤ cp) :
    Calls Tryz.prog 10 #[.slice A acc.length cp, .string (B c)] W fun e w' => e = .returned (.bool (decide (c ∈ acc))) ∧ Below W.heap.size W w' := by
  obtain ⟨K, hK⟩ := in_ev acc c hn acc.length 0 (by omega)
  rw [List.drop_zero] at hK
  have := bellowsref13_In.calls K A cp (acc.map B) (B c) _ W (by rw [List.length_map]; exact hC) (by rw [List.length_map]; exact hle) (hK K (Nat.le_refl _))
  rw [List.length_map] at this
  exact this.mono fun e w' h => ⟨h.1, h.2.below⟩
theorem refRight_any (l : Txt) (W : World) : Calls Tryz.prog 40 #[.string (B l)] W fun e w' => e = .returned (.bool (rightL l)) ∧ Below W.heap.size W w' := by
  obtain ⟨K, hK⟩ := ref_Right l
  exact bellowsref03_Right.calls K (B l) _ W (hK K (Nat.le_refl _))
theorem xor_low (h c : Nat) (hc : c < 256) : h - h % 256 + (h % 256 ^^^ c) = h ^^^ c := by
  have h1 : (h ^^^ c) / 256 = h / 256 := by
    have := Nat.xor_div_two_pow (a := h) (b := c) (n := 8)
    rw [show (2 : Nat) ^ 8 = 256 from rfl, Nat.div_eq_of_lt hc, Nat.xor_zero] at this
    exact this
  have h2 : (h ^^^ c) % 256 = h % 256 ^^^ c := by
    have := Nat.xor_mod_two_pow (a := h) (b := c) (n := 8)
    rw [show (2 : Nat) ^ 8 = 256 from rfl, Nat.mod_eq_of_lt hc] at this
    exact this
  have h3 := Nat.div_add_mod h 256
  have h4 := Nat.div_add_mod (h ^^^ c) 256
  omega
theorem hash_ev (b : Txt) (hb : b.length < 100000) (d : Nat) : ∀ (i h : Nat), i + d = b.length → h < 18446744073709551616 → Ev (fun k => bellowsref01_Hash.l0 k (ints b) (h : Int) (i : Int)) ((hashGo h (b.drop i) : Nat) : Int) := by
  induction d with
  | zero =>
    intro i h hi hh
    refine Ev.unroll ?_
    have h1 : ¬ (i : Int) < ((ints b).length : Int) := by rw [ints_len]; omega
    rw [List.drop_of_length_le (by omega)]
    simp only [bellowsref01_Hash.l0, if_neg h1]
    exact Ev.now _
  | succ d ih =>
    intro i h hi hh
    refine Ev.unroll ?_
    have hlt : i < b.length := by omega
    have h1 : (i : Int) < ((ints b).length : Int) := by rw [ints_len]; omega
    have h2 : (0 : Int) ≤ (i : Int) := by omega
    have hw := wrap_succ i (by omega)
    have hrd : rd (ints b) (i : Int) = (b[i].toNat : Int) := by
      show (ints b).getD (i : Int).toNat 0 = _
      rw [Int.toNat_natCast, ints, List.getD_eq_getElem?_getD, List.getElem?_map, List.getElem?_eq_getElem hlt]; rfl
    have hc := UInt8.toNat_lt b[i]
    have hx : h % 256 ^^^ b[i].toNat < 256 := Nat.xor_lt_two_pow (n := 8) (by omega) (by omega)
    have q1 : Int.tmod (h : Int) 256 = ((h % 256 : Nat) : Int) := by rw [Int.tmod_eq_emod_of_nonneg (by omega)]; omega
    have q2 : IntKind.u64.wrap ((h : Int) - ((h % 256 : Nat) : Int)) = ((h - h % 256 : Nat) : Int) := by rw [IntKind.wrap_u64]; omega
    have q3 : IntKind.u64.wrap (b[i].toNat : Int) = (b[i].toNat : Int) := by rw [IntKind.wrap_u64]; omega
    have q4 : Go.bits .xor .u64 ((h % 256 : Nat) : Int) (b[i].toNat : Int) = ((h % 256 ^^^ b[i].toNat : Nat) : Int) := bits_xor_u64_nat _ _ (by omega) (by omega)
    have q5 := xor_low h b[i].toNat hc
    have hxx : h ^^^ b[i].toNat < 18446744073709551616 := Nat.xor_lt_two_pow (n := 64) hh (by omega)
    have q6 : IntKind.u64.wrap (((h - h % 256 : Nat) : Int) + ((h % 256 ^^^ b[i].toNat : Nat) : Int)) = ((h ^^^ b[i].toNat : Nat) : Int) := by
      rw [IntKind.wrap_u64, ← q5]
      rw [← q5] at hxx
      omega
    have q7 : IntKind.u64.wrap (((h ^^^ b[i].toNat : Nat) : Int) * 1099511628211) = ((((h ^^^ b[i].toNat) * 1099511628211) % 18446744073709551616 : Nat) : Int) := by
      rw [IntKind.wrap_u64]; omega
    have hr := ih (i + 1) (((h ^^^ b[i].toNat) * 1099511628211) % 18446744073709551616) (by omega) (Nat.mod_lt _ (by decide))
    simp only [bellowsref01_Hash.l0, if_pos h1, if_pos h2, hrd, q1, q2, q3, q4, q6, q7, hw]
    rw [List.drop_eq_getElem_cons hlt]
    exact hr
theorem refHash_any (A : Option Addr) (c : Nat) (b : Txt) (W : World) (hC : (Kd.int .u8).C W A b.length (ints b)) (hl : b.length < 100000) (hc : b.length ≤ c) : Calls Tryz.prog 43 #[.slice A b.length c] W fun e w' => e = .returned (.int .u64 ((hashL b : Nat) : Int)) ∧ Below W.heap.size W w' := by
  obtain ⟨K, hK⟩ := hash_ev b hl b.length 0 14695981039346656037 (by omega) (by decide)
  have := bellowsref01_Hash.calls K A c (ints b) _ W (by rw [ints_len]; exact hC) (by rw [ints_len]; exact hc) (hK K (Nat.le_refl _))
  rw [ints_len] at this
  exact this.mono fun e w' h => ⟨h.1, h.2.below⟩
theorem digs_all : ((List.range 16).all fun q => decide ((⟨#[48, 49, 50, 51, 52, 53, 54, 55, 56, 57, 97, 98, 99, 100, 101, 102]⟩ : ByteArray).extract q (q + 1) = B [hexDigit q])) = true := by decide +kernel
theorem hex_ev (d : Nat) : ∀ (i m : Nat) (s : Txt), i + d = 16 → s.length ≤ i → m < 18446744073709551616 → Ev (fun k => bellowsref15_Hex.l0 k (m : Int) (B s) (i : Int)) (B (hexL d m ++ s)) := by
  induction d with
  | zero =>
    intro i m s hi hs hm
    refine Ev.unroll ?_
    have h1 : ¬ (i : Int) < 16 := by omega
    simp only [bellowsref15_Hex.l0, if_neg h1]
    exact Ev.now _
  | succ d ih =>
    intro i m s hi hs hm
    refine Ev.unroll ?_
    obtain ⟨q, hq⟩ : ∃ q, m % 16 = q := ⟨_, rfl⟩
    have hq16 : q < 16 := by omega
    have h1 : (i : Int) < 16 := by omega
    have q1 : Int.tmod (m : Int) 16 = (q : Int) := by rw [Int.tmod_eq_emod_of_nonneg (by omega)]; omega
    have q2 : IntKind.u64.wrap ((q : Int) + 1) = ((q + 1 : Nat) : Int) := by rw [IntKind.wrap_u64]; omega
    have q3 : IntKind.u64.wrap (Int.tdiv (m : Int) 16) = ((m / 16 : Nat) : Int) := by rw [Int.tdiv_eq_ediv_of_nonneg (by omega), IntKind.wrap_u64]; omega
    have h2 : (0 : Int) ≤ (q : Int) := by omega
    have h3 : (q : Int) ≤ ((q + 1 : Nat) : Int) := by omega
    have h4 : ((q + 1 : Nat) : Int) ≤ 16 := by omega
    have hex : (⟨#[48, 49, 50, 51, 52, 53, 54, 55, 56, 57, 97, 98, 99, 100, 101, 102]⟩ : ByteArray).extract (q : Int).toNat ((q + 1 : Nat) : Int).toNat = B [hexDigit q] := by
      rw [Int.toNat_natCast, Int.toNat_natCast]
      exact of_decide_eq_true (List.all_eq_true.1 digs_all q (List.mem_range.2 hq16))
    have h5 : (B [hexDigit q]).size + (B s).size ≤ 9223372036854775807 := by rw [size_B, size_B]; simp; omega
    have hw := wrap_succ i (by omega)
    have hr := ih (i + 1) (m / 16) (hexDigit q :: s) (by omega) (by simp; omega) (by omega)
    simp only [bellowsref15_Hex.l0, if_pos h1, q1, q2, if_pos h2, if_pos h3, if_pos h4, hex, if_pos h5, q3, hw]
    rw [show B [hexDigit q] ++ B s = B (hexDigit q :: s) from B_append [hexDigit q] s]
    rw [hexL, hq, List.append_assoc]
    exact hr
theorem refHex_any (m : Nat) (W : World) (hm : m < 18446744073709551616) : Calls Tryz.prog 42 #[.int .u64 (m : Int)] W fun e w' => e = .returned (.string (B (hexL 16 m))) ∧ Below W.heap.size W w' := by
  obtain ⟨K, hK⟩ := hex_ev 16 0 m [] (by omega) (by simp) hm
  rw [List.append_nil] at hK
  exact (bellowsref15_Hex.calls K (m : Int) _ W (hK K (Nat.le_refl _))).mono fun e w' h => ⟨h.1, h.2.below⟩
theorem tail_len (xs : List Txt) (h : ∀ x ∈ xs, x.length ≤ 200) : (tailT xs).length ≤ 201 * xs.length := by
  induction xs with
  | nil => simp [tailT]
  | cons x xs ih =>
    have h1 := h x (by simp)
    have h2 := ih (fun y hy => h y (by simp [hy]))
    simp only [tailT, List.flatMap_cons, List.length_append, List.length_cons] at h2 ⊢
    omega
theorem print_ev (xs : List Txt) (hn : xs.length ≤ 1000) (hs : ∀ x ∈ xs, x.length ≤ 200) (out : Txt) (ho : out.length ≤ 1000) (d : Nat) : ∀ i : Nat, i + d = xs.length →
    Ev (fun k => bellowsref14_Print.l0 k (xs.map B) (B (out ++ tailT (xs.take i))) (i : Int)) (B (out ++ tailT xs ++ [10])) := by
  have hlen : ∀ i, (tailT (xs.take i)).length ≤ 201000 := fun i => by
    have h1 := tail_len (xs.take i) (fun x hx => hs x (List.mem_of_mem_take hx))
    have h2 : (xs.take i).length ≤ xs.length := by rw [List.length_take]; omega
    omega
  induction d with
  | zero =>
    intro i hi
    refine Ev.unroll ?_
    have h1 : ¬ (i : Int) < ((xs.map B).length : Int) := by rw [List.length_map]; omega
    have e : xs.take i = xs := List.take_of_length_le (by omega)
    have hl := hlen i
    rw [e] at hl
    have h2 : (B (out ++ tailT xs)).size + 1 ≤ 9223372036854775807 := by rw [size_B, List.length_append]; omega
    simp only [bellowsref14_Print.l0, if_neg h1, e, if_pos h2]
    rw [show B (out ++ tailT xs) ++ (⟨#[10]⟩ : ByteArray) = B (out ++ tailT xs ++ [10]) from B_append _ [10]]
    exact Ev.now _
  | succ d ih =>
    intro i hi
    refine Ev.unroll ?_
    have hlt : i < xs.length := by omega
    have h1 : (i : Int) < ((xs.map B).length : Int) := by rw [List.length_map]; omega
    have h2 : (0 : Int) ≤ (i : Int) := by omega
    have hw := wrap_succ i (by omega)
    have hr := ih (i + 1) (by omega)
    have hrd : rdOf ByteArray.empty (xs.map B) (i : Int) = B xs[i] := by rw [rdOf_B _ _ (by simpa using hlt)]; simp
    have hx := hs xs[i] (List.getElem_mem hlt)
    have hl := hlen i
    have e0 : (⟨#[32]⟩ : ByteArray) ++ B xs[i] = B (32 :: xs[i]) := B_append [32] _
    have h3 : 1 + (B xs[i]).size ≤ 9223372036854775807 := by rw [size_B]; omega
    have h4 : (B (out ++ tailT (xs.take i))).size + (B (32 :: xs[i])).size ≤ 9223372036854775807 := by rw [size_B, size_B, List.length_append, List.length_cons]; omega
    have e1 : out ++ tailT (xs.take i) ++ (32 :: xs[i]) = out ++ tailT (xs.take (i + 1)) := by
      rw [List.take_succ_eq_append_getElem hlt]
      simp only [tailT, List.flatMap_append, List.flatMap_cons, List.flatMap_nil, List.append_nil, List.append_assoc]
    simp only [bellowsref14_Print.l0, if_pos h1, if_pos h2, hrd, if_pos h3, e0, if_pos h4, B_append, e1, hw]
    exact hr
theorem refPrint_any (out : Txt) (A : Option Addr) (c : Nat) (xs : List Txt) (W : World) (ho : rightL out = true) (hx : ∀ x ∈ xs, rightL x = true) (hn : xs.length ≤ 1000) (hC : Kd.C Kd.string W A xs.length (xs.map B)) (hc : xs.length ≤ c) :
    Calls Tryz.prog 23 #[.string (B out), .slice A xs.length c] W fun e w' => e = .returned (.string (B (printL out xs).1)) ∧ Below W.heap.size W w' := by
  have ol := right_len ho
  obtain ⟨K, hK⟩ := print_ev xs hn (fun x hxm => by have := right_len (hx x hxm); omega) (out ++ [58]) (by simp; omega) xs.length 0 (by omega)
  have hall : (out :: xs).all rightL = true := by rw [List.all_cons, ho, Bool.true_and, List.all_eq_true]; exact hx
  have hp : (printL out xs).1 = out ++ [58] ++ tailT xs ++ [10] := by
    unfold printL
    rw [if_pos hall, joinS_tail]
  have hf : bellowsref14_Print.f K (B out) (xs.map B) = some (B (printL out xs).1) := by
    unfold bellowsref14_Print.f
    rw [if_pos (by rw [size_B]; omega), hp, show B out ++ (⟨#[58]⟩ : ByteArray) = B (out ++ [58]) from B_append _ [58]]
    have := hK K (Nat.le_refl _)
    simpa [tailT] using this
  have := bellowsref14_Print.calls K (B out) A c (xs.map B) _ W (by rw [List.length_map]; exact hC) (by rw [List.length_map]; exact hc) hf
  rw [List.length_map] at this
  exact this.mono fun e w' h => ⟨h.1, h.2.below⟩
end Go.Proofs.YtbklhcjcgiblkaaGreatDoor.Ck
end
section
set_option linter.unusedSimpArgs false
set_option linter.unusedVariables false
namespace Go.Proofs.YtbklhcjcgiblkaaGreatDoor.Ck
open Go.RowKit Go.Lib Go.Shelf Go.Maps Go.Proofs.YtbklhcjcgiblkaaGreatDoorW.PrintWords Go.Proofs.YtbklhcjcgiblkaaGreatDoorW.PrintLast Go.Proofs.YtbklhcjcgiblkaaGreatDoorW.PrintMore Go.Proofs.YtbklhcjcgiblkaaGreatDoor.U Go.Proofs.YtbklhcjcgiblkaaGreatDoor.P Go.Proofs.YtbklhcjcgiblkaaGreatDoor.PTh Go.Proofs.YtbklhcjcgiblkaaGreatDoor.MapV
open Go.Proofs.YtbklhcjcgiblkaaGreatDoor.Fld (fieldsT)
structure Given (w : World) (v : Env) (Ad Af : Option Addr) (cd cf : Nat) : Prop where
  rd : Kd.C Kd.string w Ad v.decl.length (v.decl.map B)
  rf : Kd.C KF w Af (v.fs.map toF).length (v.fs.map toF)
  nd : v.decl.length ≤ 100000
  nf : v.fs.length ≤ 100000
  lf : ∀ f ∈ v.fs, f.b.length ≤ 100000
theorem Given.below {w w' : World} {v : Env} {Ad Af : Option Addr} {cd cf : Nat} (h : Given w v Ad Af cd cf) (hb : Below w.heap.size w w') : Given w' v Ad Af cd cf := ⟨Kd.C_below h.rd hb, Kd.C_below h.rf hb, h.nd, h.nf, h.lf⟩
def Done (cmd : Txt) (v : Env) (W : World) (db : Nat) (w' : World) : Prop := But db W w' ∧ ∃ (names : List Txt) (b dep deps : Txt) (once : Bool) (vo : Value), cookE cmd v = some ⟨names.map fun n => ⟨n, b⟩, once, dep, deps⟩ ∧
  w'.heap[db]? = some (.cells #[vo, .bool once, .string (B dep), .string (B deps)] 30 (0, 0)) ∧ OutsAt w' W.heap.size vo names b
def Failed (cmd : Txt) (v : Env) (W : World) (db : Nat) (w' : World) : Prop := But db W w' ∧ cookE cmd v = none
theorem But.grow {o : Nat} {a b c : World} (h : But o a b) (k : Below a.heap.size b c) : But o a c := ⟨k.os.trans h.os, k.tape.trans h.tape, k.output.trans h.output, Nat.le_trans h.size k.size, fun i hi hne => (k.block i hi).trans (h.same i hi hne)⟩
theorem own_but {w w' : World} {base db e sz n : Nat} {v : Value} {xs : List Value} (h : w.ownsRow base e sz v n xs) (hb : But db w w') (hdb : db < base) : w'.ownsRow base e sz v n xs := own_move h (fun k e => hb.same k (own_lt h k e) (by have := own_base h k e; omega))
theorem OutsAt.weaken {w : World} {base base' : Nat} {v : Value} {names : List Txt} {b : Txt} (h : OutsAt w base v names b) (hb : base' ≤ base) : OutsAt w base' v names b := by
  obtain ⟨f, ho, hr⟩ := h
  exact ⟨f, own_weaken ho hb, fun j hj => own_weaken (hr j hj) hb⟩
theorem OutsAt.push2 {w4 w8 : World} {base : Nat} {v v4 v8 : Value} {names : List Txt} {nm b : Txt} {f : Nat → Value} (ho4 : w4.ownsRow base 59 2 v names.length (ocells f 0 names)) (hr : ∀ j, j < names.length → w4.ownsRow base 5 1 (f j) b.length (bcells b))
    (h4 : w4.ownsRow base 5 1 v4 b.length (bcells b)) (hg : w4.grownBy w8 v.ownBlock) (h8 : w8.ownsRow base 59 2 v8 (names.length + 1) (ocells f 0 names ++ [.string (B nm), v4])) : OutsAt w8 base v8 (names ++ [nm]) b := by
  have hne : ∀ (v' : Value), w4.ownsRow base 5 1 v' b.length (bcells b) → ∀ k, v'.ownBlock = some k → some k ≠ v.ownBlock := fun v' h' k e e2 => by
    obtain ⟨cs, e1⟩ := own_typed ho4 k e2.symm
    obtain ⟨cs2, e2⟩ := own_typed h' k e
    rw [e1] at e2
    injection e2 with e2
    injection e2 with _ e2 _
    exact absurd e2 (by decide)
  let f' : Nat → Value := fun j => if j < names.length then f j else v4
  have hf : ocells f' 0 names = ocells f 0 names := ocells_ext _ _ _ _ (fun j _ h2 => by simp only [f']; rw [if_pos (by omega)])
  refine ⟨f', ?_, fun j hj => ?_⟩
  · rw [ocells_append, hf, List.length_append]
    have e : f' (0 + names.length) = v4 := by simp only [f']; rw [if_neg (by omega)]
    rw [e]
    exact h8
  · by_cases h1 : j < names.length
    · have e : f' j = f j := by simp only [f']; rw [if_pos h1]
      rw [e]
      exact own_move (hr j h1) (fun k e => hg.block k (own_lt (hr j h1) k e) (hne _ (hr j h1) k e))
    · have e : f' j = v4 := by simp only [f']; rw [if_neg h1]
      rw [e]
      exact own_move h4 (fun k e => hg.block k (own_lt h4 k e) (hne _ h4 k e))
theorem OutsAt.mk0 {w : World} {base n i : Nat} {v : Value} {names : List Txt} {b : Txt} {f : Nat → Value} (h : OutsAt w base v names b) (hn : names.length = n) : ∃ f, w.ownsRow base 59 2 v n (ocells f 0 names) ∧ ∀ j, j < n → w.ownsRow base 5 1 (f j) b.length (bcells b) := by
  subst hn; exact h
theorem cells_no_text {once : Bool} {nm : Txt} (hne : nm ≠ []) (j : Nat) (h : (#[.slice none 0 0, .bool once, .string (B []), .string (B [])] : Array Value)[j]? = some (.string (B nm))) : False := by
  match j, h with
  | 0, h => simp at h
  | 1, h => simp at h
  | 2, h => simp at h; exact absurd h (by first | exact hne | exact fun e => hne e.symm)
  | 3, h => simp at h; exact absurd h (by first | exact hne | exact fun e => hne e.symm)
  | j + 4, h => simp at h
theorem cells_no_int {once : Bool} (x : Int) (j : Nat) (h : (#[.slice none 0 0, .bool once, .string (B []), .string (B [])] : Array Value)[j]? = some (.int .u8 x)) : False := by
  match j, h with
  | 0, h => simp at h
  | 1, h => simp at h
  | 2, h => simp at h
  | 3, h => simp at h
  | j + 4, h => simp at h
theorem told_ok {cmd : Txt} {v : Env} {W w' : World} {db o : Nat} (ho : W.heap[o]? = some (.cells #[.int .i64 0] 31 (0, 0))) (hne : o ≠ db) (h : Done cmd v W db w') : Told o (Done cmd v W db) (Failed cmd v W db) (.returned (.tuple #[])) w' :=
  ⟨(h.1.same o (Array.getElem?_eq_some_iff.1 ho).1 hne).trans ho, .inl ⟨rfl, h⟩⟩
theorem told_bad {cmd : Txt} {v : Env} {W w' : World} {db o : Nat} (h : cookE cmd v = none) (hb : But db W w') (ho : W.heap[o]? = some (.cells #[.int .i64 0] 31 (0, 0))) (hne : o ≠ db) : Told o (Done cmd v W db) (Failed cmd v W db) fl w' :=
  ⟨(hb.same o (Array.getElem?_eq_some_iff.1 ho).1 hne).trans ho, .inr ⟨rfl, hb, h⟩⟩
set_option maxRecDepth 100000 in
set_option maxHeartbeats 16000000 in
theorem cook1_any (cmd : Txt) (hl : cmd.length ≤ 10000) (v : Env) (Ad Af : Option Addr) (cd cf : Nat) (W : World) (hG : Given W v Ad Af cd cf) (ht : Tab W) (pc pd pf db o : Nat)
    (h1 : W.heap[pc]? = some (.cells #[.string (B cmd)] 9 (0, 0))) (h2 : W.heap[pd]? = some (.cells #[.slice Ad v.decl.length cd] 22 (0, 0))) (h3 : W.heap[pf]? = some (.cells #[.slice Af v.fs.length cf] 28 (0, 0)))
    (h4 : W.heap[db]? = some (.cells #[.slice none 0 0, .bool false, .string (B []), .string (B [])] 30 (0, 0))) (h5 : W.heap[o]? = some (.cells #[.int .i64 0] 31 (0, 0))) (hod : o ≠ db) :
    Calls Tryz.prog 14 #[at0 pc, at0 pd, at0 pf, at0 db] W (Told o (Done cmd v W db) (Failed cmd v W db)) := by
  have hE : Hid (cookE cmd v = match shapeE cmd with
    | none => none
    | some s => match doE v s.verb s.args with
      | none => none
      | some (b, found) => if b.length ≤ 65536 then some ⟨s.outs.map fun o => ⟨o, b⟩, s.once, s.dep, if s.dep = [] then [] else (printL (s.outs.getD 0 []) found).1⟩ else none) := rfl
  have c1 := (cell_of_heap (j := 0) h1).trans rfl
  have hGH := Lib.hid hG
  have htH := Lib.hid ht
  have h2H := Lib.hid h2
  have h3H := Lib.hid h3
  have h4H := Lib.hid h4
  have h5H := Lib.hid h5
  have hodH : Hid (o ≠ db) := hod
  obtain ⟨nd, hnd⟩ : ∃ n, v.decl.length = n := ⟨_, rfl⟩
  obtain ⟨nf, hnf⟩ : ∃ n, v.fs.length = n := ⟨_, rfl⟩
  have hndH := Lib.hid hnd
  have hnfH := Lib.hid hnf
  have hBad : Hid (∀ w', cookE cmd v = none → But db W w' → Told o (Done cmd v W db) (Failed cmd v W db) fl w') := fun w' h hb => told_bad h hb h5 hod
  have hGood : Hid (∀ w', Done cmd v W db w' → Told o (Done cmd v W db) (Failed cmd v W db) (.returned (.tuple #[])) w') := fun w' h => told_ok h5 hod h
  have hdbl : Hid (db < W.heap.size) := (Array.getElem?_eq_some_iff.1 h4).1
  clear h1 h2 h3 h4 h5 hG ht hod hnd hnf
  go_enter Tryz.func14, Tryz.ntmps14
  go_wp2_with fail
  refine (shape_any cmd (by omega) _).mono ?_
  rintro e W1 ⟨hb1, hP1⟩
  have hB1 := Lib.hid hb1
  cases hs : shapeE cmd with
  | none =>
    rw [hs] at hP1
    obtain rfl : e = fl := hP1
    exact ⟨rfl, hBad.out _ (by rw [hE.out, hs]) (But.of_below hb1)⟩
  | some s =>
    rw [hs] at hP1
    obtain ⟨A1, ca, A2, c2, rfl, hl1, hC1, hl2, hC2⟩ := hP1
    obtain ⟨verb, args, once, outs, dep⟩ := s
    dsimp only at *
    have hE2 : Hid (cookE cmd v = match doE v verb args with
      | none => none
      | some (b, found) => if b.length ≤ 65536 then some ⟨outs.map fun o => ⟨o, b⟩, once, dep, if dep = [] then [] else (printL (outs.getD 0 []) found).1⟩ else none) := by show _ = _; rw [hE.out, hs]
    obtain ⟨hw1, hw2, hw3, hvb⟩ : (∀ a ∈ args, a ∈ fieldsT cmd) ∧ args.length ≤ (fieldsT cmd).length ∧ outs.length ≤ (fieldsT cmd).length ∧ verbB verb = true := shapeE_words hs
    obtain ⟨hof, hdep⟩ : OutFacts outs dep ∧ (dep ≠ [] ↔ verb = kInc) := shapeE_facts hs
    have hfl := fieldsT_len cmd
    obtain ⟨K, hK0⟩ : ∃ K : CK, K = ⟨W1, A1, Ad, Af, ca, cd, cf, args, v⟩ := ⟨_, rfl⟩
    have hG1 := hGH.out.below hb1
    have hOk : K.Ok := by
      rw [hK0]
      exact ⟨hC1, hG1.rd, hG1.rf, by show args.length ≤ _; omega, hG1.nd, hG1.nf, hG1.lf, fun a ha => by have := Fld_short cmd a (hw1 a ha); omega, hl1⟩
    obtain ⟨g, hg1, hg2, hg3⟩ := verb_any K hOk verb hvb
    have hg3H := Lib.hid hg3
    have d2 := (cell_of_heap (j := 0) ((hb1.block _ (Array.getElem?_eq_some_iff.1 h2H.out).1).trans h2H.out)).trans rfl
    have d3 := (cell_of_heap (j := 0) ((hb1.block _ (Array.getElem?_eq_some_iff.1 h3H.out).1).trans h3H.out)).trans rfl
    rw [hndH.out] at d2
    rw [hnfH.out] at d3
    have hOut := Lib.hid hof
    have hDep := Lib.hid hdep
    have hol : outs.length ≤ 100000 := by omega
    have hC2H := Lib.hid hC2
    obtain ⟨na, hna⟩ : ∃ n, args.length = n := ⟨_, rfl⟩
    have hnaH := Lib.hid hna
    obtain ⟨no, hno⟩ : ∃ n, outs.length = n := ⟨_, rfl⟩
    have hnoH := Lib.hid hno
    have hK0H := Lib.hid hK0
    have hvs : verb.length ≤ 1000000 := by
      simp only [verbB, Bool.or_eq_true, beq_iff_eq] at hvb
      rcases hvb with ((((h | h) | h) | h) | h) | h <;> rw [h] <;> decide
    rw [hna, hno]
    clear hb1 hs hw1 hw2 hw3 hfl hG1 hC1 hC2 hl1 hg3 hof hdep hna hno hK0 c1 hE
    have hx2 : (W1.alloc (.cells #[.slice A1 na ca, .slice Ad nd cd, .slice Af nf cf, .slice none 0 0, .int .i64 0] 53)).heap[W1.heap.size]? = some (.cells #[.slice A1 na ca, .slice Ad nd cd, .slice Af nf cf, .slice none 0 0, .int .i64 0] 53 (0, 0)) := heap_alloc_new _ _
    have hb2 : Below W1.heap.size W1 (W1.alloc (.cells #[.slice A1 na ca, .slice Ad nd cd, .slice Af nf cf, .slice none 0 0, .int .i64 0] 53)) := (Below.refl _ _).alloc (Nat.le_refl _) _
    go_wp2_with fail
    generalize W1.alloc (.cells #[.slice A1 na ca, .slice Ad nd cd, .slice Af nf cf, .slice none 0 0, .int .i64 0] 53) = W2 at *
    have hKv : K.v = v := by rw [hK0H.out]
    have hKa : K.args = args := by rw [hK0H.out]
    have hKw : K.w0 = W1 := by rw [hK0H.out]
    have hAt2 : K.At W2 (.slice none 0 0) 0 := by
      refine ⟨?_, by rw [hKw]; exact hb2⟩
      rw [hKw, hKa, hKv, hnaH.out, hndH.out, hnfH.out, hK0H.out]
      exact hx2
    refine (verbs_any _).mono ?_
    rintro e W3 ⟨rfl, hM, hb3⟩
    have hlk : (Instr.lookup 55 (.map (some W2.heap.size)) (.string (B verb)) false).run Tryz.prog W3 = .ok (.func (.func g) #[] #[]) W3 := by
      rw [← hg1]; exact hM.look (t := 55) Tryz.underlying55 (zero_verb W3) verb (by unfold maxLen; omega)
    have hB3 : Below W.heap.size W W3 := hB1.out.trans ((hb2.trans (hb3.mono hb2.size)).mono hB1.out.size)
    have hcall := hg3H.out W3 (hAt2.below hb3) (htH.out.below hB3)
    rw [hKw, hKv, hKa] at hcall
    have hCall := Lib.hid hcall
    have hB3H := Lib.hid hB3
    have hKvH := Lib.hid hKv
    have hKwH := Lib.hid hKw
    have hB13 : Hid (Below W1.heap.size W1 W3) := hb2.trans (hb3.mono hb2.size)
    clear hM hb3 hcall hB3 hAt2 hx2 hb2 hKv hKa hKw d2 d3
    go_wp2_with fail
    refine hCall.out.mono ?_
    rintro e W4 ⟨hb4, hP4⟩
    rw [hKwH.out] at hb4
    have hB4 := Lib.hid (hB3H.out.trans (hb4.mono hB1.out.size))
    have hW14 : Hid (Below W1.heap.size W1 W4) := hB13.out.trans hb4
    clear hb4 hlk
    cases hd : doE v verb args with
    | none =>
      rw [hd] at hP4
      obtain rfl : e = fl := hP4
      exact ⟨rfl, hBad.out _ (by rw [hE2.out, hd]) (But.of_below hB4.out)⟩
    | some bf =>
      obtain ⟨b, found⟩ := bf
      rw [hd] at hP4
      obtain ⟨A, c, vf, m, rfl, hlc, hCb, hAt4, hfo, hfn⟩ := hP4
      dsimp only at hlc hCb hfo hfn
      have hE3 : Hid (cookE cmd v = if b.length ≤ 65536 then some ⟨outs.map fun o => ⟨o, b⟩, once, dep, if dep = [] then [] else (printL (outs.getD 0 []) found).1⟩ else none) := by show _ = _; rw [hE2.out, hd]
      obtain ⟨lb, hlb⟩ : ∃ n, b.length = n := ⟨_, rfl⟩
      have hlbH := Lib.hid hlb
      rw [hlb] at hlc hCb ⊢
      have hD4 := Lib.hid ((hB4.out.block _ (Array.getElem?_eq_some_iff.1 h4H.out).1).trans h4H.out)
      have hCbH := Lib.hid hCb
      have hAtH := Lib.hid hAt4
      have hfoH := Lib.hid hfo
      clear hlb hd hCb hAt4 hfo
      by_cases hle : lb ≤ 65536
      · have hd1 : decide ((lb : Int) ≤ 65536) = true := by rw [decide_eq_true_iff]; omega
        have hE4 : Hid (cookE cmd v = some ⟨outs.map fun o => ⟨o, b⟩, once, dep, if dep = [] then [] else (printL (outs.getD 0 []) found).1⟩) := by show _ = _; rw [hE3.out, if_pos (by rw [hlbH.out]; exact hle)]
        have e1 := (cell_of_heap (j := 1) hD4.out).trans rfl
        have f1 := frozen_of_heap hD4.out 1
        have hD5 := Lib.hid (blk_put hD4.out 1 (.bool once) rfl)
        have hBut45 : Hid (But db W4 (W4.setCell ⟨db, 1, none⟩ (.bool once))) := (But.refl _ _).set 1 _
        have hAlt := hfn
        have hNames : Hid (∀ w', But db W4 w' → Kd.C Kd.string w' A2 outs.length (outs.map B)) := fun w' hb => scalar_but (Kd.C_below hC2H.out hW14.out) hD4.out (fun x hx j h => by
          obtain ⟨nm, hnm, rfl⟩ := List.mem_map.1 hx
          have hne := right_ne (hOut.out.right nm hnm)
          exact cells_no_text hne j h) hb
        have hBytes : Hid (∀ w', But db W4 w' → (Kd.int .u8).C w' A b.length (ints b)) := fun w' hb => by have h1 := hCbH.out; rw [← hlbH.out] at h1; exact scalar_but h1 hD4.out (fun x hx j h => cells_no_int x j h) hb
        go_wp2_with fail
        refine (need_yes _).mono ?_
        rintro e W5 ⟨rfl, rfl⟩
        go_wp2_with fail
        obtain ⟨W5, hW5⟩ : ∃ x, W4.setCell ⟨db, 1, none⟩ (.bool once) = x := ⟨_, rfl⟩
        rw [hW5] at hD5 hBut45
        rw [hW5]
        clear hW5
        go_loopg [39] no (fun gk s39 wr => ∃ (i : Nat) (Ao : Option Addr) (co : Nat), s39 = .int .i64 (i : Int) ∧ i + gk = no ∧ Hid (wr.heap[db]? = some (.cells #[.slice Ao i co, .bool once, .string (B []), .string (B [])] 30 (0, 0))) ∧ Hid (OutsAt wr W4.heap.size (.slice Ao i co) (outs.take i) b) ∧ Hid (But db W4 wr))
        case atStart => exact ⟨0, none, 0, rfl, by omega, hD5, by show OutsAt _ _ _ _ _; exact OutsAt.nil _ _ _, hBut45⟩
        case round =>
          obtain ⟨i, Ao, co, rfl, hik, hD, hO, hBt⟩ := hrel
          cases gk with
          | zero =>
            obtain rfl : i = no := by omega
            have hlt : decide ((i : Int) < (i : Int)) = false := by rw [decide_eq_false_iff_not]; omega
            have hO' : Hid (OutsAt wr W4.heap.size (.slice Ao i co) outs b) := by
              have := hO.out
              rw [List.take_of_length_le (by rw [hnoH.out]; exact Nat.le_refl _)] at this
              exact this
            have hDeq : Hid (outs.map (fun o => (⟨o, b⟩ : FileL)) = outs.map fun o => ⟨o, b⟩) := rfl
            cases dep with
            | nil =>
              go_wp2_with fail
              go_end0
              refine hGood.out _ ⟨(But.of_below hB4.out).trans (hBt.out), outs, b, [], [], once, _, ?_, hD.out, hO'.out.weaken hB4.out.size⟩
              rw [hE4.out]; rfl
            | cons d0 ds =>
              have h5 := hD.out
              have e2 := (cell_of_heap (j := 2) hD.out).trans rfl
              have f2 := frozen_of_heap hD.out 2
              have hD6 := Lib.hid (blk_put hD.out 2 (.string (B (d0 :: ds))) rfl)
              have hBt6 : Hid (But db W4 (wr.setCell ⟨db, 2, none⟩ (.string (B (d0 :: ds))))) := hBt.out.set 2 _
              have hO6 : Hid (OutsAt (wr.setCell ⟨db, 2, none⟩ (.string (B (d0 :: ds)))) W4.heap.size (.slice Ao i co) outs b) := hO'.out.move (fun k h1 _ => Below.heap_setCell _ _ _ _ (by have h2 := hdbl.out; have h3 := hB4.out.size; show k ≠ db; omega))
              clear h5
              go_wp2_with fail
              generalize hW6 : wr.setCell ⟨db, 2, none⟩ (.string (B (d0 :: ds))) = W6 at *
              clear hW6 e2 f2 hO hD hO'
              have hno0 : 0 < outs.length := List.length_pos_iff.2 hOut.out.ne
              obtain ⟨ad, hA2, k0⟩ := text_at (hNames.out _ hBt6.out) 0 hno0
              obtain ⟨o0, ho0⟩ : ∃ y, outs[0] = y := ⟨_, rfl⟩
              rw [ho0] at k0
              have e0 : ad.add 0 = ad := by simp [Addr.add]
              rw [e0] at k0
              have hgd : Hid (outs.getD 0 [] = o0) := by
                show _ = _
                rw [List.getD_eq_getElem?_getD, List.getElem?_eq_getElem hno0, ho0]; rfl
              subst hA2
              have hcb : W6.heap[W1.heap.size]? = some (.cells #[.slice K.Aa K.args.length K.ca, .slice K.Ad K.v.decl.length K.cd, .slice K.Af K.v.fs.length K.cf, vf, .int .i64 m] 53 (0, 0)) := by
                have h1 := hAtH.out.h
                rw [hKwH.out] at h1
                exact (hBt6.out.same _ (Array.getElem?_eq_some_iff.1 h1).1 (by have h2 := hdbl.out; have h3 := hB1.out.size; omega)).trans h1
              have k3 := (cell_of_heap (j := 3) hcb).trans rfl
              have hfr : W6.ownsRow (W1.heap.size + 1) 9 1 vf found.length (strs found) := by
                have h1 := hfoH.out
                rw [hKwH.out] at h1
                exact own_but h1 hBt6.out (by have h2 := hdbl.out; have h3 := hB1.out.size; omega)
              obtain ⟨Av, cv, rfl, hlv, hCv⟩ := row_reads hfr
              have hS6 : Hid ((W6.drew).cell? ad = some (.string (B o0)) ∧ (W6.drew).cell? ⟨W1.heap.size, 3, none⟩ = some (.slice Av found.length cv)) := ⟨k0, k3⟩
              have hPr := Lib.hid (Print_any o0 Av cv found W6.drew (Kd.C_below hCv ((Below.refl _ _).drew)) hfn)
              have hno1 : (0 : Int) < (i : Int) := by have := hnoH.out; omega
              have hno2 : 0 < i := by omega
              have hBt7 : Hid (But db W4 W6.drew) := hBt6.out.trans ⟨rfl, rfl, rfl, Nat.le_refl _, fun _ _ _ => rfl⟩
              have hD7 : Hid (W6.drew.heap[db]? = some (.cells #[.slice Ao i co, .bool once, .string (B (d0 :: ds)), .string (B [])] 30 (0, 0))) := hD6.out
              have hO7 : Hid (OutsAt W6.drew W4.heap.size (.slice Ao i co) outs b) := hO6.out.move (fun _ _ _ => rfl)
              have hE5 : Hid (cookE cmd v = some ⟨outs.map fun o => ⟨o, b⟩, once, d0 :: ds, (printL o0 found).1⟩) := by show _ = _; rw [hE4.out, hgd.out]; rfl
              clear k0 k3 hcb hfr hCv e0 ho0 hBt6 hD6 hO6 hBt hno0
              generalize printL o0 found = pr at *
              go_wp2_with fail
              refine RegP.region (fun w' => w'.cell? ad = some (.string (B o0)) ∧ w'.cell? ⟨W1.heap.size, 3, none⟩ = some (.slice Av found.length cv)) 7 [(0, 0), (0, 1), (1, 2), (0, 3), (0, 4), (0, 5), (1, 6), (3, 7), (0, 8), (0, 9), (0, 10), (0, 11), (3, 12)] (by kernel_rfl) (by kernel_rfl) (by rfl) (by kernel_rfl) (by exact hS6.out) ?_
              refine RegP.pure1 (by (simp only [gA,gB,gC]); rfl) (by exact fun _ _ _ h => h) (by rfl) (by intro w'; go_simp; try with_reducible rfl) ?_
              try simp only [Act.put, pA,pB,pC]
              refine RegP.pure1 (by (simp only [gA,gB,gC]); rfl) (by exact fun _ _ _ h => h) (by rfl) (by intro w'; go_simp; try with_reducible rfl) ?_
              try simp only [Act.put, pA,pB,pC]
              refine RegP.held1 (by (simp only [gA,gB,gC]); rfl) (by exact fun _ _ _ h => h) (by rfl) (by intro w' hS_; (try dsimp only at hS_); go_split_ands; go_simp; try with_reducible rfl) ?_
              try simp only [Act.put, pA,pB,pC]
              refine RegP.pure1 (by (simp only [gA,gB,gC]); rfl) (by exact fun _ _ _ h => h) (by rfl) (by intro w'; go_simp; try with_reducible rfl) ?_
              try simp only [Act.put, pA,pB,pC]
              refine RegP.pure1 (by (simp only [gA,gB,gC]); rfl) (by exact fun _ _ _ h => h) (by rfl) (by intro w'; go_simp; try with_reducible rfl) ?_
              try simp only [Act.put, pA,pB,pC]
              refine RegP.pure1 (by (simp only [gA,gB,gC]); rfl) (by exact fun _ _ _ h => h) (by rfl) (by intro w'; go_simp; try with_reducible rfl) ?_
              try simp only [Act.put, pA,pB,pC]
              refine RegP.held1 (by (simp only [gA,gB,gC]); rfl) (by exact fun _ _ _ h => h) (by rfl) (by intro w' hS_; (try dsimp only at hS_); go_split_ands; go_simp; try with_reducible rfl) ?_
              try simp only [Act.put, pA,pB,pC]
              refine RegP.last1 (by (simp only [gA,gB,gC]); rfl) (fun K hK => ?_)
              go_simp
              refine hPr.out.mono ?_
              rintro e w7 ⟨rfl, hb7⟩
              have hD8 := Lib.hid ((hb7.block _ (Array.getElem?_eq_some_iff.1 hD7.out).1).trans hD7.out)
              have hBt8 := Lib.hid (hBt7.out.grow (hb7.mono hBt7.out.size))
              have hO8 := Lib.hid (hO7.out.move (w' := w7) (fun k _ h2 => hb7.block k h2))
              have k0 := (cell_of_heap (j := 3) hD8.out).trans rfl
              have kf0 := frozen_of_heap hD8.out 3
              clear hb7
              refine hK.out _ _ ?_
              clear hK K
              try simp only [Act.put, pA,pB,pC]
              refine RegP.pure1 (by (simp only [gA,gB,gC]); rfl) (by exact fun _ _ _ h => h) (by rfl) (by intro w'; go_simp; try with_reducible rfl) ?_
              try simp only [Act.put, pA,pB,pC]
              refine RegP.pure1 (by (simp only [gA,gB,gC]); rfl) (by exact fun _ _ _ h => h) (by rfl) (by intro w'; go_simp; try with_reducible rfl) ?_
              try simp only [Act.put, pA,pB,pC]
              refine RegP.pure1 (by (simp only [gA,gB,gC]); rfl) (by exact fun _ _ _ h => h) (by rfl) (by intro w'; go_simp; try with_reducible rfl) ?_
              try simp only [Act.put, pA,pB,pC]
              refine RegP.pure1 (by (simp only [gA,gB,gC]); rfl) (by exact fun _ _ _ h => h) (by rfl) (by intro w'; go_simp; try with_reducible rfl) ?_
              try simp only [Act.put, pA,pB,pC]
              refine RegP.last1 (by (simp only [gA,gB,gC]); rfl) (fun K hK => ?_)
              have hD9 := Lib.hid (blk_put hD8.out 3 (.string (B pr.1)) rfl)
              have hBt9 : Hid (But db W4 (w7.setCell ⟨db, 3, none⟩ (.string (B pr.1)))) := hBt8.out.set 3 _
              have hO9 : Hid (OutsAt (w7.setCell ⟨db, 3, none⟩ (.string (B pr.1))) W4.heap.size (.slice Ao i co) outs b) := hO8.out.move (fun k h1 _ => Below.heap_setCell _ _ _ _ (by have h2 := hdbl.out; have h3 := hB4.out.size; show k ≠ db; omega))
              go_simp
              generalize w7.setCell ⟨db, 3, none⟩ (.string (B pr.1)) = w9 at *
              refine hK.out _ _ ?_
              clear hK K
              try simp only [Act.put, pA,pB,pC]
              refine RegP.done1 ?_
              try dsimp only
              go_wp2_with fail
              go_end0
              exact hGood.out _ ⟨(But.of_below hB4.out).trans (hBt9.out), outs, b, d0 :: ds, pr.1, once, _, hE5.out, hD9.out, hO9.out.weaken hB4.out.size⟩
          | succ gk =>
            have hiN : i < outs.length := by rw [hnoH.out]; omega
            have hlt : decide ((i : Int) < (no : Int)) = true := by rw [decide_eq_true_iff]; omega
            obtain ⟨ad2, hA2, k0⟩ := text_at (hNames.out _ hBt.out) i hiN
            obtain ⟨nm, hnm⟩ : ∃ y, outs[i] = y := ⟨_, rfl⟩
            rw [hnm] at k0
            have hAA := Lib.hid hA2
            have hTk : Hid (outs.take (i + 1) = outs.take i ++ [nm]) := by show _ = _; rw [List.take_succ_eq_append_getElem hiN, hnm]
            have hTL : (outs.take i).length = i := by rw [List.length_take]; omega
            have hTLH := Lib.hid hTL
            obtain ⟨f, hof, hor⟩ := OutsAt.mk0 (i := 0) (f := fun _ => undef) hO.out hTL
            have hi0 : (0 : Int) ≤ (i : Int) := by omega
            have hi1 : (i : Int) < (no : Int) := by omega
            have hiN1 : i + 1 ≤ no := by omega
            have hno5 : no ≤ 100000 := by rw [← hnoH.out]; exact hol
            clear hA2 hnm hTL hiN
            obtain ⟨ad, rfl⟩ : ∃ ad, A2 = some ad := ⟨_, hAA.out⟩
            obtain rfl : ad = ad2 := by have := hAA.out; injection this
            have hofH : Hid (wr.drew.ownsRow W4.heap.size 59 2 (.slice Ao i co) i (ocells f 0 (outs.take i))) := hof
            have horH : Hid (∀ j, j < i → wr.drew.ownsRow W4.heap.size 5 1 (f j) b.length (bcells b)) := hor
            have hS0 : Hid (wr.drew.cell? ⟨db, 0, none⟩ = some (.slice Ao i co)) := (cell_of_heap (j := 0) hD.out).trans rfl
            have hDd : Hid (wr.drew.heap[db]? = some (.cells #[.slice Ao i co, .bool once, .string (B []), .string (B [])] 30 (0, 0))) := hD.out
            have hBd : Hid (But db W4 wr.drew) := hBt.out.trans ⟨rfl, rfl, rfl, Nat.le_refl _, fun _ _ _ => rfl⟩
            clear hof hor
            go_wp2_with fail
            refine RegP.region (fun w' => w'.cell? ⟨db, 0, none⟩ = some (.slice Ao i co)) 7 [(0, 0), (1, 1), (0, 2), (0, 3), (2, 4), (0, 5), (2, 6), (3, 7), (0, 8), (3, 9)] (by kernel_rfl) (by kernel_rfl) (by rfl) (by kernel_rfl) (by exact hS0.out) ?_
            generalize wr.drew = wd at *
            refine RegP.pure1 (by (simp only [gA,gB,gC]); rfl) (by exact fun _ _ _ h => h) (by rfl) (by intro w'; go_simp; try with_reducible rfl) ?_
            try simp only [Act.put, pA,pB,pC]
            refine RegP.held1 (by (simp only [gA,gB,gC]); rfl) (by exact fun _ _ _ h => h) (by rfl) (by intro w' hS_; (try dsimp only at hS_); go_split_ands; go_simp; try with_reducible rfl) ?_
            try simp only [Act.put, pA,pB,pC]
            refine RegP.pure1 (by (simp only [gA,gB,gC]); rfl) (by exact fun _ _ _ h => h) (by rfl) (by intro w'; go_simp; try with_reducible rfl) ?_
            try simp only [Act.put, pA,pB,pC]
            refine RegP.pure1 (by (simp only [gA,gB,gC]); rfl) (by exact fun _ _ _ h => h) (by rfl) (by intro w'; go_simp; try with_reducible rfl) ?_
            try simp only [Act.put, pA,pB,pC]
            refine RegP.ev1 (by (simp only [gA,gB,gC]); rfl) (fun K hK => ?_)
            go_simp
            have hCl := clone_any A c b wd (hBytes.out _ hBd.out) (by rw [hlbH.out]; omega)
            rw [hlbH.out] at hCl
            refine hCl.mono ?_
            rintro e w4 ⟨v4, rfl, ho4, hb4⟩
            have hS4 : Hid (w4.cell? ⟨db, 0, none⟩ = some (.slice Ao i co)) := below_cell hb4 hS0.out
            rw [← hlbH.out] at ho4
            obtain ⟨Aq, cq, rfl, _, _⟩ := own_reads ho4
            rw [hlbH.out]
            have hwl : W4.heap.size ≤ wd.heap.size := hBd.out.size
            have ho4H : Hid (w4.ownsRow W4.heap.size 5 1 (.slice Aq b.length cq) b.length (bcells b)) := own_weaken ho4 hwl
            have hof4 := Lib.hid (own_move hofH.out (w1 := w4) (fun k e => hb4.block k (own_lt hofH.out k e)))
            have hor4 : Hid (∀ j, j < i → w4.ownsRow W4.heap.size 5 1 (f j) b.length (bcells b)) := fun j hj => own_move (horH.out j hj) (fun k e => hb4.block k (own_lt (horH.out j hj) k e))
            have hD4b := Lib.hid ((hb4.block _ (Array.getElem?_eq_some_iff.1 hDd.out).1).trans hDd.out)
            have hBt4 := Lib.hid (hBd.out.grow (hb4.mono hwl))
            have hwl4 : W4.heap.size ≤ w4.heap.size := Nat.le_trans hwl hb4.size
            clear hCl ho4 hb4
            refine hK.out _ _ ?_ (fun hHeld => ?_)
            · (try dsimp only); exact hS4.out
            clear hK K
            try simp only [Act.put, pA,pB,pC]
            refine RegP.pure1 (by (simp only [gA,gB,gC]); rfl) (by exact fun _ _ _ h => h) (by rfl) (by intro w'; go_simp; try with_reducible rfl) ?_
            try simp only [Act.put, pA,pB,pC]
            refine RegP.ev1 (by (simp only [gA,gB,gC]); rfl) (fun K hK => ?_)
            go_simp
            refine hK.out _ _ ?_ (fun hHeld => ?_)
            · (try dsimp only); exact below_cell ((Below.refl w4.heap.size w4).alloc (Nat.le_refl _) _) hS4.out
            clear hK K
            try simp only [Act.put, pA,pB,pC]
            refine RegP.last1 (by (simp only [gA,gB,gC]); rfl) (fun K hK => ?_)
            rw [← hlbH.out]
            refine step_append_cells (w0 := w4) (W := w4) W4.heap.size rfl _ _ 28 59 (.agg #[.string ⟨#[]⟩, .slice none 0 0]) 2 40 rfl Tryz.underlying28 (by kernel_rfl) rfl (by decide) (by decide) (.slice Ao i co) i (ocells f 0 (outs.take i)) [.string (B nm), .slice Aq b.length cq] rfl rfl rfl (by intro u hu; rcases List.mem_cons.1 hu with rfl | hu; rfl; rw [List.mem_singleton.1 hu]; rfl) hof4.out (Below.refl _ _) hwl4 (by omega) ?_
            intro v8 w8 ho8 hb8 hg8 ha8
            obtain ⟨A8, c8, rfl⟩ : ∃ A c, v8 = .slice A (i + 1) c := by rcases ho8.2 with ⟨_, h⟩ | ⟨g, cap, cur, e, _⟩; exact absurd h (by omega); exact ⟨_, _, e⟩
            have hD8 := Lib.hid ((hg8.block db (Array.getElem?_eq_some_iff.1 hD4b.out).1 (fun e => by obtain ⟨cs, e1⟩ := own_typed hof4.out db e.symm; exact absurd (typed_ne hD4b.out e1) (by decide))).trans hD4b.out)
            have hO8 : Hid (OutsAt w8 W4.heap.size (.slice A8 (i + 1) c8) (outs.take (i + 1)) b) := by
              show OutsAt _ _ _ _ _
              rw [hTk.out]
              have h1 := hof4.out; have h2 := hor4.out; have h3 := ho8
              rw [← hTLH.out] at h1 h2 h3
              exact OutsAt.push2 (v := .slice Ao i co) (by simpa only [hTLH.out] using h1) h2 ho4H.out hg8 (by simpa only [hTLH.out] using h3)
            have hBt8 := Lib.hid (hBt4.out.grow hb8)
            have k0 := (cell_of_heap (j := 0) hD8.out).trans rfl
            have kf0 := frozen_of_heap hD8.out 0
            clear ho8 hb8 hg8 ha8
            rw [hlbH.out]
            refine hK.out _ _ ?_
            clear hK K
            try simp only [Act.put, pA,pB,pC]
            refine RegP.pure1 (by (simp only [gA,gB,gC]); rfl) (by exact fun _ _ _ h => h) (by rfl) (by intro w'; go_simp; try with_reducible rfl) ?_
            try simp only [Act.put, pA,pB,pC]
            refine RegP.last1 (by (simp only [gA,gB,gC]); rfl) (fun K hK => ?_)
            have hD9 := Lib.hid (blk_put hD8.out 0 (.slice A8 (i + 1) c8) rfl)
            have hBt9 : Hid (But db W4 (w8.setCell ⟨db, 0, none⟩ (.slice A8 (i + 1) c8))) := hBt8.out.set 0 _
            have hO9 : Hid (OutsAt (w8.setCell ⟨db, 0, none⟩ (.slice A8 (i + 1) c8)) W4.heap.size (.slice A8 (i + 1) c8) (outs.take (i + 1)) b) := hO8.out.move (fun k h1 _ => Below.heap_setCell _ _ _ _ (by have h2 := hdbl.out; have h3 := hB4.out.size; show k ≠ db; omega))
            go_simp
            generalize w8.setCell ⟨db, 0, none⟩ (.slice A8 (i + 1) c8) = w9 at *
            refine hK.out _ _ ?_
            clear hK K
            try simp only [Act.put, pA,pB,pC]
            refine RegP.done1 ?_
            try dsimp only
            go_wp2_with fail
            go_roundg gk
            case measure => omega
            case rel => exact ⟨i + 1, A8, c8, by first | rfl | simp, by omega, hD9, hO9, hBt9⟩
      · have hd1 : decide ((lb : Int) ≤ 65536) = false := by rw [decide_eq_false_iff_not]; omega
        go_wp2_with fail
        refine (need_no _).mono ?_
        rintro e W5 ⟨rfl, rfl⟩
        exact ⟨rfl, hBad.out _ (by rw [hE3.out, if_neg (by rw [hlbH.out]; exact hle)]) (But.of_below hB4.out)⟩
end Go.Proofs.YtbklhcjcgiblkaaGreatDoor.Ck
end
section
set_option linter.unusedSimpArgs false
set_option linter.unusedVariables false
namespace Go.Proofs.YtbklhcjcgiblkaaGreatDoor.Ck
open Go.RowKit Go.Lib Go.Shelf Go.Maps Go.Proofs.YtbklhcjcgiblkaaGreatDoorW.PrintWords Go.Proofs.YtbklhcjcgiblkaaGreatDoorW.PrintLast Go.Proofs.YtbklhcjcgiblkaaGreatDoorW.PrintMore Go.Proofs.YtbklhcjcgiblkaaGreatDoor.U Go.Proofs.YtbklhcjcgiblkaaGreatDoor.P Go.Proofs.YtbklhcjcgiblkaaGreatDoor.PTh Go.Proofs.YtbklhcjcgiblkaaGreatDoor.MapV
open Go.Proofs.YtbklhcjcgiblkaaGreatDoor.Fld (fieldsT)
def Cooked (r : Option DishL) (w : World) (e : Ending) (w' : World) : Prop := Below w.heap.size w w' ∧ match r with
  | none => e = .returned (.tuple #[.agg #[.slice none 0 0, .bool false, .string (B []), .string (B [])], .int .i64 13])
  | some d => ∃ vo names b, d = ⟨names.map fun n => ⟨n, b⟩, d.once, d.dep, d.deps⟩ ∧ e = .returned (.tuple #[.agg #[vo, .bool d.once, .string (B d.dep), .string (B d.deps)], .int .i64 0]) ∧ OutsAt w' w.heap.size vo names b
theorem low5 {w W5 w1 w2 : World} {x : Obj} {db o : Nat} (h : Below w.heap.size w W5) (h1 : But db (W5.alloc x) w1) (h2 : But o w1 w2) (hd : w.heap.size ≤ db) (ho : w.heap.size ≤ o) : Below w.heap.size w w2 := by
  have ha := h.alloc h.size x
  have hs := ha.size
  have hs1 := h1.size
  exact ⟨h2.os.trans (h1.os.trans ha.os), h2.tape.trans (h1.tape.trans ha.tape), h2.output.trans (h1.output.trans ha.output), Nat.le_trans hs (Nat.le_trans hs1 h2.size), fun k hk => (h2.same k (by omega) (by omega)).trans ((h1.same k (by omega) (by omega)).trans (ha.block k hk))⟩
set_option maxRecDepth 100000 in
set_option maxHeartbeats 16000000 in
theorem Cook_any (cmd : Txt) (hl : cmd.length ≤ 10000) (v : Env) (Ad Af : Option Addr) (cd cf : Nat) (w : World) (hG : Given w v Ad Af cd cf) (ht : Tab w) :
    Calls Tryz.prog 5 #[.string (B cmd), .slice Ad v.decl.length cd, .slice Af v.fs.length cf] w (Cooked (cookE cmd v) w) := by
  have hmf : ∀ (fn : Fn) (first cap : Array Value) (w : World), (Instr.makeFunc fn first cap).run Tryz.prog w = .ok (.func fn first cap) w := fun _ _ _ _ => rfl
  have hGH := Lib.hid hG
  have htH := Lib.hid ht
  obtain ⟨nd, hnd⟩ : ∃ n, v.decl.length = n := ⟨_, rfl⟩
  obtain ⟨nf, hnf⟩ : ∃ n, v.fs.length = n := ⟨_, rfl⟩
  have hndH := Lib.hid hnd
  have hnfH := Lib.hid hnf
  rw [hnd, hnf]
  clear hG ht hnd hnf
  obtain ⟨W5, hW5⟩ : ∃ W5, ((((w.alloc (.cells #[.string (B cmd)] 9)).alloc (.cells #[.slice Ad nd cd] 22)).alloc (.cells #[.slice Af nf cf] 28)).alloc (.cells #[.slice none 0 0, .bool false, .string (B []), .string (B [])] 30)).alloc (.cells #[.slice none 0 0, .bool false, .string (B []), .string (B [])] 30) = W5 := ⟨_, rfl⟩
  have hs5 : W5.heap.size = w.heap.size + 1 + 1 + 1 + 1 + 1 := by rw [← hW5]; simp
  have hb5 : Below w.heap.size w W5 := by
    rw [← hW5]
    have h1 := (Below.refl w.heap.size w).alloc (Nat.le_refl _) (.cells #[.string (B cmd)] 9)
    have h2 := h1.alloc h1.size (.cells #[.slice Ad nd cd] 22)
    have h3 := h2.alloc h2.size (.cells #[.slice Af nf cf] 28)
    have h4 := h3.alloc h3.size (.cells #[.slice none 0 0, .bool false, .string (B []), .string (B [])] 30)
    exact h4.alloc h4.size _
  have up1 : ∀ (w : World) (k : Nat) (x o : Obj), w.heap[k]? = some x → (w.alloc o).heap[k]? = some x := fun w k x o h => (((Below.refl w.heap.size w).alloc (Nat.le_refl _) o).block _ (Array.getElem?_eq_some_iff.1 h).1).trans h
  have n0 := heap_alloc_new w (.cells #[.string (B cmd)] 9)
  have g0 : W5.heap[w.heap.size]? = some (.cells #[.string (B cmd)] 9 (0, 0)) := by rw [← hW5]; exact (up1 _ _ _ _ (up1 _ _ _ _ (up1 _ _ _ _ (up1 _ _ _ _ n0))))
  have n1 := heap_alloc_new (w.alloc (.cells #[.string (B cmd)] 9)) (.cells #[.slice Ad nd cd] 22)
  simp only [World.size_alloc] at n1
  have g1 : W5.heap[w.heap.size + 1]? = some (.cells #[.slice Ad nd cd] 22 (0, 0)) := by rw [← hW5]; exact (up1 _ _ _ _ (up1 _ _ _ _ (up1 _ _ _ _ n1)))
  have n2 := heap_alloc_new ((w.alloc (.cells #[.string (B cmd)] 9)).alloc (.cells #[.slice Ad nd cd] 22)) (.cells #[.slice Af nf cf] 28)
  simp only [World.size_alloc] at n2
  have g2 : W5.heap[w.heap.size + 1 + 1]? = some (.cells #[.slice Af nf cf] 28 (0, 0)) := by rw [← hW5]; exact (up1 _ _ _ _ (up1 _ _ _ _ n2))
  have n3 := heap_alloc_new (((w.alloc (.cells #[.string (B cmd)] 9)).alloc (.cells #[.slice Ad nd cd] 22)).alloc (.cells #[.slice Af nf cf] 28)) (.cells #[.slice none 0 0, .bool false, .string (B []), .string (B [])] 30)
  simp only [World.size_alloc] at n3
  have g3 : W5.heap[w.heap.size + 1 + 1 + 1]? = some (.cells #[.slice none 0 0, .bool false, .string (B []), .string (B [])] 30 (0, 0)) := by rw [← hW5]; exact (up1 _ _ _ _ n3)
  have n4 := heap_alloc_new ((((w.alloc (.cells #[.string (B cmd)] 9)).alloc (.cells #[.slice Ad nd cd] 22)).alloc (.cells #[.slice Af nf cf] 28)).alloc (.cells #[.slice none 0 0, .bool false, .string (B []), .string (B [])] 30)) (.cells #[.slice none 0 0, .bool false, .string (B []), .string (B [])] 30)
  simp only [World.size_alloc] at n4
  have g4 : W5.heap[w.heap.size + 1 + 1 + 1 + 1]? = some (.cells #[.slice none 0 0, .bool false, .string (B []), .string (B [])] 30 (0, 0)) := by rw [← hW5]; exact n4
  have hbo := (Below.refl W5.heap.size W5).alloc (Nat.le_refl _) (.cells #[.int .i64 0] 31)
  have up : ∀ {k : Nat} {x : Obj}, W5.heap[k]? = some x → (W5.alloc (.cells #[.int .i64 0] 31)).heap[k]? = some x := fun {k x} h => (hbo.block _ (Array.getElem?_eq_some_iff.1 h).1).trans h
  have hdo := cook1_any cmd hl v Ad Af cd cf (W5.alloc (.cells #[.int .i64 0] 31)) (hGH.out.below (hb5.trans (hbo.mono hb5.size))) (htH.out.below (hb5.trans (hbo.mono hb5.size))) w.heap.size (w.heap.size + 1) (w.heap.size + 1 + 1) (w.heap.size + 1 + 1 + 1 + 1) W5.heap.size
    (up g0) (by rw [hndH.out]; exact up g1) (by rw [hnfH.out]; exact up g2) (up g4) (heap_alloc_new _ _) (by omega)
  have hGd := Lib.hid (guarded_any 14 #[at0 w.heap.size, at0 (w.heap.size + 1), at0 (w.heap.size + 1 + 1), at0 (w.heap.size + 1 + 1 + 1 + 1)] W5 (fun _ _ => by kernel_rfl) _ _ hdo)
  have hb5H := Lib.hid hb5
  have g3H := Lib.hid g3
  have hs5H := Lib.hid hs5
  have hos : Hid (W5.heap.size < (W5.alloc (.cells #[.int .i64 0] 31)).heap.size) := by show _ < _; simp
  clear g0 g1 g2 g3 g4 hdo hb5
  go_enter Tryz.func5, Tryz.ntmps5
  go_wp2_with fail
  clear n0 n1 n2 n3 n4 up1 up hbo
  refine hGd.out.mono ?_
  rintro e w2 (⟨rfl, w1, ⟨hB1, names, b, dep, deps, once, vo, hce, hd, ho⟩, hB2⟩ | ⟨rfl, w1, ⟨hB1, hce⟩, hB2⟩)
  · obtain ⟨Ao, co, rfl⟩ := ho.form
    have hlt := hB1.size
    have hs := hs5H.out
    have hd2 := Lib.hid ((hB2.same _ (Array.getElem?_eq_some_iff.1 hd).1 (by omega)).trans hd)
    have g32 := Lib.hid ((hB2.same _ (by have := hos.out; omega) (by omega)).trans ((hB1.same _ (by have := hos.out; omega) (by omega)).trans ((((Below.refl W5.heap.size W5).alloc (Nat.le_refl _) (.cells #[.int .i64 0] 31)).block _ (by omega)).trans g3H.out)))
    have hbw : Hid (Below w.heap.size w w2) := low5 hb5H.out hB1 hB2 (by omega) (by omega)
    have ho2 : Hid (OutsAt w2 (W5.heap.size + 1) (.slice Ao names.length co) names b) := by
      have h1 := ho.move (w' := w2) (fun k h1 h2 => hB2.same k h2 (by have := hos.out; omega))
      rw [World.size_alloc] at h1; exact h1
    have hce' := Lib.hid hce
    have x0 := (cell_of_heap (j := 0) hd2.out).trans rfl
    have x1 := (cell_of_heap (j := 1) hd2.out).trans rfl
    have x2 := (cell_of_heap (j := 2) hd2.out).trans rfl
    have x3 := (cell_of_heap (j := 3) hd2.out).trans rfl
    have y0 := (cell_of_heap (j := 0) g32.out).trans rfl
    have y1 := (cell_of_heap (j := 1) g32.out).trans rfl
    have y2 := (cell_of_heap (j := 2) g32.out).trans rfl
    have y3 := (cell_of_heap (j := 3) g32.out).trans rfl
    have f0 := frozen_of_heap g32.out 0
    have f1 := frozen_of_heap g32.out 1
    have f2 := frozen_of_heap g32.out 2
    have f3 := frozen_of_heap g32.out 3
    clear hB1 hB2 hd ho hce hlt hW5 hs5 hmf hl hs
    go_wp2_with fail
    obtain ⟨rb, hrb⟩ : ∃ n, w.heap.size + 1 + 1 + 1 = n := ⟨_, rfl⟩
    have k4 := blk_put (blk_put (blk_put (blk_put g32.out 0 (.slice Ao names.length co) rfl) 1 (.bool once) rfl) 2 (.string (B dep)) rfl) 3 (.string (B deps)) rfl
    have hkeep : ∀ k, k ≠ w.heap.size + 1 + 1 + 1 → ((((w2.setCell ⟨w.heap.size + 1 + 1 + 1, 0, none⟩ (.slice Ao names.length co)).setCell ⟨w.heap.size + 1 + 1 + 1, 1, none⟩ (.bool once)).setCell ⟨w.heap.size + 1 + 1 + 1, 2, none⟩ (.string (B dep))).setCell ⟨w.heap.size + 1 + 1 + 1, 3, none⟩ (.string (B deps))).heap[k]? = w2.heap[k]? := fun k hk => by rw [Below.heap_setCell _ _ _ _ hk, Below.heap_setCell _ _ _ _ hk, Below.heap_setCell _ _ _ _ hk, Below.heap_setCell _ _ _ _ hk]
    have hbz : Below w.heap.size w ((((w2.setCell ⟨w.heap.size + 1 + 1 + 1, 0, none⟩ (.slice Ao names.length co)).setCell ⟨w.heap.size + 1 + 1 + 1, 1, none⟩ (.bool once)).setCell ⟨w.heap.size + 1 + 1 + 1, 2, none⟩ (.string (B dep))).setCell ⟨w.heap.size + 1 + 1 + 1, 3, none⟩ (.string (B deps))) := ⟨hbw.out.os, hbw.out.tape, hbw.out.output, by simpa using hbw.out.size, fun k hk => (hkeep k (by omega)).trans (hbw.out.block k hk)⟩
    have q0 := (cell_of_heap (j := 0) k4).trans rfl
    have q1 := (cell_of_heap (j := 1) k4).trans rfl
    have q2 := (cell_of_heap (j := 2) k4).trans rfl
    have q3 := (cell_of_heap (j := 3) k4).trans rfl
    have ho3 : OutsAt ((((w2.setCell ⟨w.heap.size + 1 + 1 + 1, 0, none⟩ (.slice Ao names.length co)).setCell ⟨w.heap.size + 1 + 1 + 1, 1, none⟩ (.bool once)).setCell ⟨w.heap.size + 1 + 1 + 1, 2, none⟩ (.string (B dep))).setCell ⟨w.heap.size + 1 + 1 + 1, 3, none⟩ (.string (B deps))) w.heap.size (.slice Ao names.length co) names b := (ho2.out.move (fun k h1 h2 => hkeep k (by have := hs5H.out; omega))).weaken (by have := hs5H.out; omega)
    have hcb := hce'.out
    generalize ((((w2.setCell ⟨w.heap.size + 1 + 1 + 1, 0, none⟩ (.slice Ao names.length co)).setCell ⟨w.heap.size + 1 + 1 + 1, 1, none⟩ (.bool once)).setCell ⟨w.heap.size + 1 + 1 + 1, 2, none⟩ (.string (B dep))).setCell ⟨w.heap.size + 1 + 1 + 1, 3, none⟩ (.string (B deps))) = w9 at *
    rw [hcb]
    refine bodyPost_ret (v := .tuple #[.agg #[.slice Ao names.length co, .bool once, .string (B dep), .string (B deps)], .int .i64 0]) (by simp [results, Tryz.f5, go_sem, q0, q1, q2, q3]) rfl ⟨hbz, _, names, b, rfl, rfl, ho3⟩
  · have hlt := hB1.size
    have hs := hs5H.out
    have g32 := Lib.hid ((hB2.same _ (by have := hos.out; omega) (by omega)).trans ((hB1.same _ (by have := hos.out; omega) (by omega)).trans ((((Below.refl W5.heap.size W5).alloc (Nat.le_refl _) (.cells #[.int .i64 0] 31)).block _ (by omega)).trans g3H.out)))
    have hbw : Hid (Below w.heap.size w w2) := low5 hb5H.out hB1 hB2 (by omega) (by omega)
    have y0 := (cell_of_heap (j := 0) g32.out).trans rfl
    have y1 := (cell_of_heap (j := 1) g32.out).trans rfl
    have y2 := (cell_of_heap (j := 2) g32.out).trans rfl
    have y3 := (cell_of_heap (j := 3) g32.out).trans rfl
    have f0 := frozen_of_heap g32.out 0
    have f1 := frozen_of_heap g32.out 1
    have f2 := frozen_of_heap g32.out 2
    have f3 := frozen_of_heap g32.out 3
    have hce' := Lib.hid hce
    clear hB1 hB2 hce hlt hW5 hs5 hmf hl hs
    go_wp2_with fail
    obtain ⟨rb, hrb⟩ : ∃ n, w.heap.size + 1 + 1 + 1 = n := ⟨_, rfl⟩
    have k4 := blk_put (blk_put (blk_put (blk_put g32.out 0 (.slice none 0 0) rfl) 1 (.bool false) rfl) 2 (.string (B [])) rfl) 3 (.string (B [])) rfl
    have hkeep : ∀ k, k ≠ w.heap.size + 1 + 1 + 1 → ((((w2.setCell ⟨w.heap.size + 1 + 1 + 1, 0, none⟩ (.slice none 0 0)).setCell ⟨w.heap.size + 1 + 1 + 1, 1, none⟩ (.bool false)).setCell ⟨w.heap.size + 1 + 1 + 1, 2, none⟩ (.string (B []))).setCell ⟨w.heap.size + 1 + 1 + 1, 3, none⟩ (.string (B []))).heap[k]? = w2.heap[k]? := fun k hk => by rw [Below.heap_setCell _ _ _ _ hk, Below.heap_setCell _ _ _ _ hk, Below.heap_setCell _ _ _ _ hk, Below.heap_setCell _ _ _ _ hk]
    have hbz : Below w.heap.size w ((((w2.setCell ⟨w.heap.size + 1 + 1 + 1, 0, none⟩ (.slice none 0 0)).setCell ⟨w.heap.size + 1 + 1 + 1, 1, none⟩ (.bool false)).setCell ⟨w.heap.size + 1 + 1 + 1, 2, none⟩ (.string (B []))).setCell ⟨w.heap.size + 1 + 1 + 1, 3, none⟩ (.string (B []))) := ⟨hbw.out.os, hbw.out.tape, hbw.out.output, by simpa using hbw.out.size, fun k hk => (hkeep k (by omega)).trans (hbw.out.block k hk)⟩
    have q0 := (cell_of_heap (j := 0) k4).trans rfl
    have q1 := (cell_of_heap (j := 1) k4).trans rfl
    have q2 := (cell_of_heap (j := 2) k4).trans rfl
    have q3 := (cell_of_heap (j := 3) k4).trans rfl
    have hcb := hce'.out
    generalize hW9 : ((((w2.setCell ⟨w.heap.size + 1 + 1 + 1, 0, none⟩ (.slice none 0 0)).setCell ⟨w.heap.size + 1 + 1 + 1, 1, none⟩ (.bool false)).setCell ⟨w.heap.size + 1 + 1 + 1, 2, none⟩ (.string (B []))).setCell ⟨w.heap.size + 1 + 1 + 1, 3, none⟩ (.string (B []))) = w9 at *
    have hW9' := hW9
    simp only [B] at hW9'
    try rw [hW9']
    rw [hcb]
    refine bodyPost_ret (v := .tuple #[.agg #[.slice none 0 0, .bool false, .string (B []), .string (B [])], .int .i64 13]) (by simp [results, Tryz.f5, go_sem, q0, q1, q2, q3]) rfl ⟨hbz, rfl⟩
end Go.Proofs.YtbklhcjcgiblkaaGreatDoor.Ck
end
section
set_option linter.unusedSimpArgs false
set_option linter.unusedVariables false
namespace Go.Proofs.YtbklhcjcgiblkaaGreatDoor.Ck
open Go.RowKit Go.Lib Go.Shelf Go.Maps Go.Proofs.YtbklhcjcgiblkaaGreatDoorW.PrintWords Go.Proofs.YtbklhcjcgiblkaaGreatDoorW.PrintLast Go.Proofs.YtbklhcjcgiblkaaGreatDoorW.PrintMore Go.Proofs.YtbklhcjcgiblkaaGreatDoor.U Go.Proofs.YtbklhcjcgiblkaaGreatDoor.P Go.Proofs.YtbklhcjcgiblkaaGreatDoor.PTh Go.Proofs.YtbklhcjcgiblkaaGreatDoor.MapV
open Go.Proofs.YtbklhcjcgiblkaaGreatDoor.Fld (fieldsT)
def allocs (w : World) : List Obj → World
  | [] => w
  | o :: l => allocs (w.alloc o) l
theorem allocs_size : ∀ (l : List Obj) (w : World), (allocs w l).heap.size = w.heap.size + l.length
  | [], w => rfl
  | o :: l, w => by rw [allocs, allocs_size l, World.size_alloc, List.length_cons]; omega
theorem allocs_below : ∀ (l : List Obj) (w : World) (n : Nat), n ≤ w.heap.size → Below n w (allocs w l)
  | [], w, n, h => Below.refl _ _
  | o :: l, w, n, h => ((Below.refl n w).alloc h o).trans (allocs_below l _ n (by rw [World.size_alloc]; omega))
theorem allocs_at : ∀ (l : List Obj) (w : World) (i : Nat) (o : Obj), l[i]? = some o → (allocs w l).heap[w.heap.size + i]? = some o
  | [], w, i, o, h => by simp at h
  | x :: l, w, 0, o, h => by
    injection h with h
    subst h
    have h1 := (allocs_below l (w.alloc x) (w.alloc x).heap.size (Nat.le_refl _)).block w.heap.size (by simp)
    exact h1.trans (heap_alloc_new w x)
  | x :: l, w, i + 1, o, h => by
    have := allocs_at l (w.alloc x) i o h
    rw [World.size_alloc, Nat.add_assoc, Nat.add_comm 1 i] at this
    exact this
theorem reads_at {α : Type} {R : α → List Value → Prop} {size : Nat} {w : World} {g : Nat} {ty : TypeId} {fr : Nat × Nat} {cells : List Value} {ps : List α} (h : w.heap[g]? = some (.cells cells.toArray ty fr)) (hr : Reps R size ps cells) (hl : ps.length ≤ 9223372036854775807) :
    ReadsRow R size w (some ⟨g, 0, none⟩) ps.length ps := by
  refine ⟨rfl, hl, fun _ => ⟨_, rfl, fun j p hj => ⟨(cells.drop (j * size)).take size, ?_, hr.2 j p hj, fun i u hu => ?_⟩⟩⟩
  · have hjl : j < ps.length := (List.getElem?_eq_some_iff.1 hj).1
    have hm : (j + 1) * size ≤ ps.length * size := Nat.mul_le_mul_right _ hjl
    rw [List.length_take, List.length_drop, hr.1]
    rw [Nat.add_mul, Nat.one_mul] at hm
    omega
  · rw [add_plain, cell_of_heap h]
    rw [List.getElem?_take] at hu
    split at hu
    · rw [List.getElem?_drop] at hu
      simpa using hu
    · cases hu
theorem words_at {w : World} {g : Nat} {ty : TypeId} {fr : Nat × Nat} {ws : List Txt} (h : w.heap[g]? = some (.cells (strs ws).toArray ty fr)) (hl : ws.length ≤ 1000000) : Kd.C Kd.string w (some ⟨g, 0, none⟩) ws.length (ws.map B) := by
  have := reads_at (R := Kd.string.K w) (size := 1) (ps := ws.map B) h ⟨by simp [strs], fun j p hj => ?_⟩ (by rw [List.length_map]; omega)
  · rw [List.length_map] at this; exact this
  · rw [List.getElem?_map] at hj
    obtain ⟨x, hx, rfl⟩ := Option.map_eq_some_iff.1 hj
    show _ = _
    rw [Nat.mul_one, strs]
    obtain ⟨hjl, rfl⟩ := List.getElem?_eq_some_iff.1 hx
    rw [List.drop_eq_getElem_cons (by rw [List.length_map]; exact hjl), List.take_succ_cons, List.take_zero, List.getElem_map]
theorem bytes_at {w : World} {g : Nat} {ty : TypeId} {fr : Nat × Nat} {b : Txt} (h : w.heap[g]? = some (.cells (bcells b).toArray ty fr)) (hl : b.length ≤ 1000000) : (Kd.int .u8).C w (some ⟨g, 0, none⟩) b.length (ints b) := by
  have := reads_at (R := (Kd.int .u8).K w) (size := 1) (ps := ints b) h ⟨by rw [bcells_len, ints_len, Nat.mul_one], fun j p hj => ?_⟩ (by rw [ints_len]; omega)
  · rw [ints_len] at this; exact this
  · rw [ints, List.getElem?_map] at hj
    obtain ⟨x, hx, rfl⟩ := Option.map_eq_some_iff.1 hj
    obtain ⟨hjl, rfl⟩ := List.getElem?_eq_some_iff.1 hx
    show _ = _
    rw [Nat.mul_one]
    have hb : bcells b = b.map fun c => Value.int .u8 (c.toNat : Int) := by
      clear hx hl h
      induction b with
      | nil => rfl
      | cons c b ih => simp [bcells] at ih ⊢ <;> exact ih
    rw [hb, List.drop_eq_getElem_cons (by rw [List.length_map]; exact hjl), List.take_succ_cons, List.take_zero, List.getElem_map]
theorem files2_at {w : World} {g c1 c2 : Nat} {ty : TypeId} {fr : Nat × Nat} {n1 n2 b1 b2 : Txt} {A1 A2 : Option Addr} (h : w.heap[g]? = some (.cells #[.string (B n1), .slice A1 b1.length c1, .string (B n2), .slice A2 b2.length c2] ty fr))
    (l1 : b1.length ≤ c1) (h1 : (Kd.int .u8).C w A1 b1.length (ints b1)) (l2 : b2.length ≤ c2) (h2 : (Kd.int .u8).C w A2 b2.length (ints b2)) : Kd.C KF w (some ⟨g, 0, none⟩) 2 ([⟨n1, b1⟩, ⟨n2, b2⟩].map toF) := by
  have hl1 : (toF ⟨n1, b1⟩).f1.length = b1.length := ints_len b1
  have hl2 : (toF ⟨n2, b2⟩).f1.length = b2.length := ints_len b2
  have m1 := k59_mk w (toF ⟨n1, b1⟩) (A1 := A1) (c1 := c1) (by rw [hl1]; exact l1) (by rw [hl1]; exact h1)
  have m2 := k59_mk w (toF ⟨n2, b2⟩) (A1 := A2) (c1 := c2) (by rw [hl2]; exact l2) (by rw [hl2]; exact h2)
  rw [hl1] at m1
  rw [hl2] at m2
  refine reads_at (R := KF.K w) (size := 2) (ps := [⟨n1, b1⟩, ⟨n2, b2⟩].map toF) (cells := [.string (B n1), .slice A1 b1.length c1, .string (B n2), .slice A2 b2.length c2]) h ⟨rfl, fun j p hj => ?_⟩ (by simp)
  match j, hj with
  | 0, hj => injection hj with hj; subst hj; exact m1
  | 1, hj => injection hj with hj; subst hj; exact m2
  | j + 2, hj => simp at hj
theorem strOf_ints (b : Txt) : strOfNums (ints b) = B b := by
  have : (ints b).map (fun x => UInt8.ofNat x.toNat) = b := by
    unfold ints
    rw [List.map_map]
    conv => rhs; rw [← List.map_id b]
    apply List.map_congr_left
    intro c _
    simp
  unfold strOfNums; rw [this]
theorem conv_txt {w : World} {A : Option Addr} {c : Nat} {b : Txt} (h : (Kd.int .u8).C w A b.length (ints b)) : (convert 24 9 (.slice A b.length c)).run Tryz.prog w = .ok (.string (B b)) w := by
  rw [← strOf_ints b]
  exact Kd.C_string Tryz.underlying24 Tryz.underlying5 Tryz.underlying9 h
def av1 : Env := ⟨[[97], [98]], [⟨[97], [120]⟩, ⟨[98], [121]⟩]⟩
def av2 : Env := ⟨[[97]], [⟨[97], [35, 105, 110, 99, 108, 117, 100, 101, 32, 98]⟩, ⟨[98], [121]⟩]⟩
theorem awake_first : cookE [99, 97, 116, 32, 97, 32, 98, 32, 62, 32, 111] av1 = some ⟨[⟨[111], [120, 121]⟩], false, [], []⟩ := by kernel_rfl
theorem awake_second : cookE [105, 110, 99, 32, 97, 32, 62, 32, 111, 32, 58, 32, 100] av2 = some ⟨[⟨[111], [121]⟩], false, [100], [111, 58, 32, 98, 10]⟩ := by kernel_rfl
theorem OutsAt.one {w : World} {base co : Nat} {Ao : Option Addr} {nm b : Txt} (h : OutsAt w base (.slice Ao 1 co) [nm] b) : ∃ g o Ab cb, Ao = some ⟨g, o, none⟩ ∧ 1 ≤ co ∧ w.cell? ⟨g, o, none⟩ = some (.string (B nm)) ∧ w.cell? ⟨g, o + 1, none⟩ = some (.slice Ab b.length cb) ∧ b.length ≤ cb ∧ (Kd.int .u8).C w Ab b.length (ints b) := by
  obtain ⟨A, c, he, hl, hC⟩ := h.C
  injection he with he _ he2
  subst he he2
  obtain ⟨ad, A1, c1, rfl, k0, k1, l1, g1⟩ := file_at (fs := [⟨nm, b⟩]) hC 0 (by simp)
  have e0 : ad.add (0 * 2) = ad := by simp [Addr.add]
  rw [e0] at k0 k1
  have ep := addr_plain k0
  exact ⟨ad.block, ad.off, A1, c1, congrArg some ep, hl, by rw [← ep]; exact k0, k1, l1, g1⟩
theorem names1 {names : List Txt} {b nm b' : Txt} (h : [(⟨nm, b'⟩ : FileL)] = names.map fun n => ⟨n, b⟩) : names = [nm] ∧ b = b' := by
  match names, h with
  | [], h => simp at h
  | [n], h => simp at h; exact ⟨by rw [h.1], h.2.symm⟩
  | _ :: _ :: _, h => simp at h
theorem Cook_at (cmd : Txt) (hl : cmd.length ≤ 10000) (v : Env) (nd nf cd cf : Nat) (Ad Af : Option Addr) (w : World) (hG : Given w v Ad Af cd cf) (ht : Tab w) (h1 : v.decl.length = nd) (h2 : v.fs.length = nf) (s : ByteArray) (hs : s = B cmd) :
    Calls Tryz.prog 5 #[.string s, .slice Ad nd cd, .slice Af nf cf] w (Cooked (cookE cmd v) w) := by
  subst h1 h2 hs
  exact Cook_any cmd hl v Ad Af cd cf w hG ht
set_option maxRecDepth 100000 in
set_option maxHeartbeats 16000000 in
theorem awake_any (w : World) (ht : Tab w) : Calls Tryz.prog 7 #[] w fun e w' => e = .returned (.bool true) ∧ Below w.heap.size w w' := by
  have kc := fun (w : World) (C : Array Value) (n c : Nat) => Lib.run_convert_bytes_const (P := Tryz.prog) w 24 5 C n c Tryz.underlying24 Tryz.underlying5
  have kc1 : ∀ (o : Obj) (C : Array Value) (n c : Nat), (convert 24 24 (.slice (some ⟨w.heap.size + 1, 0, none⟩) n c)).run Tryz.prog ((w.alloc o).alloc (.cells C 5)) = .ok (.slice (some ⟨w.heap.size + 1, 0, none⟩) n c) ((w.alloc o).alloc (.cells C 5 (C.size, C.size + 1))) :=
    fun o C n c => by have := kc (w.alloc o) C n c; rwa [World.size_alloc] at this
  have htH := Lib.hid ht
  obtain ⟨L1, hL1⟩ : ∃ L : List Obj, L = [.cells #[.int .u8 120] 5 (1, 2), .cells #[.int .u8 121] 5 (1, 2), .cells #[.string (B [97]), .slice (some ⟨w.heap.size, 0, none⟩) 1 1, .string (B [98]), .slice (some ⟨w.heap.size + 1, 0, none⟩) 1 1] 59, .cells #[.string (B [97]), .string (B [98])] 9] := ⟨_, rfl⟩
  have hb1 := allocs_below L1 w w.heap.size (Nat.le_refl _)
  have hs1 := allocs_size L1 w
  have a0 := allocs_at L1 w 0
  have a1 := allocs_at L1 w 1
  have a2 := allocs_at L1 w 2
  have a3 := allocs_at L1 w 3
  have hW1 := (rfl : allocs w L1 = allocs w L1)
  generalize hWg : allocs w L1 = W1 at *
  rw [hL1] at a0 a1 a2 a3 hs1 hWg
  replace a0 := a0 _ rfl
  replace a1 := a1 _ rfl
  replace a2 := a2 _ rfl
  replace a3 := a3 _ rfl
  simp only [allocs] at hWg
  clear hL1 hW1 ht
  go_enter Tryz.func7, Tryz.ntmps7
  go_wp2_with fail
  have hG1 : Given W1 av1 (some ⟨w.heap.size + 1 + 1 + 1, 0, none⟩) (some ⟨w.heap.size + 1 + 1, 0, none⟩) 2 2 :=
    ⟨words_at (ws := [[97], [98]]) a3 (by decide), files2_at (n1 := [97]) (b1 := [120]) (n2 := [98]) (b2 := [121]) a2 (Nat.le_refl _) (bytes_at (b := [120]) a0 (by decide)) (Nat.le_refl _) (bytes_at (b := [121]) a1 (by decide)), by decide, by decide, by decide⟩
  have hC1 := Cook_at [99, 97, 116, 32, 97, 32, 98, 32, 62, 32, 111] (by decide) av1 2 2 2 2 _ _ W1 hG1 (htH.out.below hb1) rfl rfl _ rfl
  rw [awake_first] at hC1
  refine hC1.mono ?_
  rintro e W2 ⟨hb2, vo, names, b, hd, rfl, ho⟩
  injection hd with hd _ _ _
  obtain ⟨rfl, rfl⟩ := names1 hd
  obtain ⟨Ao, co, rfl⟩ := ho.form
  dsimp only
  have hoH := Lib.hid ho
  have hb2H := Lib.hid hb2
  have hbw : Hid (Below w.heap.size w W2) := hb1.trans (hb2.mono hb1.size)
  have b1 := (hb2.block _ (Array.getElem?_eq_some_iff.1 a1).1).trans a1
  have b2 := (hb2.block _ (Array.getElem?_eq_some_iff.1 a2).1).trans a2
  clear hG1 hC1 ho hb2 hWg hb1 a0 a1 a2 a3 kc1
  have kc2 : ∀ (o : Obj) (C : Array Value) (n c : Nat), (convert 24 24 (.slice (some ⟨W2.heap.size + 1, 0, none⟩) n c)).run Tryz.prog ((W2.alloc o).alloc (.cells C 5)) = .ok (.slice (some ⟨W2.heap.size + 1, 0, none⟩) n c) ((W2.alloc o).alloc (.cells C 5 (C.size, C.size + 1))) :=
    fun o C n c => by have := kc (W2.alloc o) C n c; rwa [World.size_alloc] at this
  obtain ⟨W3, hW3⟩ : ∃ W3, allocs W2 [.cells #[.slice Ao 1 co, .bool false, .string (B []), .string (B [])] 30, .cells #[.int .u8 35, .int .u8 105, .int .u8 110, .int .u8 99, .int .u8 108, .int .u8 117, .int .u8 100, .int .u8 101, .int .u8 32, .int .u8 98] 5 (10, 11)] = W3 := ⟨_, rfl⟩
  have hb3 : Below W2.heap.size W2 W3 := by rw [← hW3]; exact allocs_below _ W2 _ (Nat.le_refl _)
  have hs3 : W3.heap.size = W2.heap.size + 1 + 1 := by rw [← hW3]; exact allocs_size _ _
  have d3 : W3.heap[W2.heap.size]? = some (.cells #[.slice Ao 1 co, .bool false, .string (B []), .string (B [])] 30 (0, 0)) := by rw [← hW3]; exact allocs_at _ W2 0 _ rfl
  have i3 : W3.heap[W2.heap.size + 1]? = some (.cells #[.int .u8 35, .int .u8 105, .int .u8 110, .int .u8 99, .int .u8 108, .int .u8 117, .int .u8 100, .int .u8 101, .int .u8 32, .int .u8 98] 5 (10, 11)) := by rw [← hW3]; exact allocs_at _ W2 1 _ rfl
  have b13 := (hb3.block _ (Array.getElem?_eq_some_iff.1 b1).1).trans b1
  have b23 := (hb3.block _ (Array.getElem?_eq_some_iff.1 b2).1).trans b2
  have q3 := (cell_of_heap (j := 1) b23).trans rfl
  have qf := frozen_of_heap b23 1
  have b24 := blk_put b23 1 (.slice (some ⟨W2.heap.size + 1, 0, none⟩) 10 10) rfl
  have hks : ∀ k, k ≠ w.heap.size + 1 + 1 → (W3.setCell ⟨w.heap.size + 1 + 1, 1, none⟩ (.slice (some ⟨W2.heap.size + 1, 0, none⟩) 10 10)).heap[k]? = W3.heap[k]? := fun k hk => Below.heap_setCell _ _ _ _ hk
  have hss : (W3.setCell ⟨w.heap.size + 1 + 1, 1, none⟩ (.slice (some ⟨W2.heap.size + 1, 0, none⟩) 10 10)).heap.size = W3.heap.size := by simp
  have hlt := (Array.getElem?_eq_some_iff.1 b2).1
  have hbw4 : Below w.heap.size w (W3.setCell ⟨w.heap.size + 1 + 1, 1, none⟩ (.slice (some ⟨W2.heap.size + 1, 0, none⟩) 10 10)) :=
    (hbw.out.trans (hb3.mono hbw.out.size)).setCell (by show w.heap.size ≤ w.heap.size + 1 + 1; omega) _
  have b14 := (hks _ (by omega)).trans b13
  have d4 := (hks _ (by omega)).trans d3
  have i4 := (hks _ (by omega)).trans i3
  simp only [allocs] at hW3
  obtain ⟨W4, hW4⟩ : ∃ W4, W3.setCell ⟨w.heap.size + 1 + 1, 1, none⟩ (.slice (some ⟨W2.heap.size + 1, 0, none⟩) 10 10) = W4 := ⟨_, rfl⟩
  have hkeep : ∀ k, w.heap.size + 1 + 1 < k → k < W2.heap.size → W4.heap[k]? = W2.heap[k]? := fun k h1 h2 => by rw [← hW4]; exact (hks _ (by omega)).trans (hb3.block k h2)
  rw [hW4] at b24 hss hbw4 b14 d4 i4
  obtain ⟨W5, hW5⟩ : ∃ W5, W4.alloc (.cells #[.string (B [97])] 9) = W5 := ⟨_, rfl⟩
  have hb5 : Below W4.heap.size W4 W5 := by rw [← hW5]; exact (Below.refl _ _).alloc (Nat.le_refl _) _
  have n5 : W5.heap[W4.heap.size]? = some (.cells #[.string (B [97])] 9 (0, 0)) := by rw [← hW5]; exact heap_alloc_new _ _
  have hG2 : Given W5 av2 (some ⟨W4.heap.size, 0, none⟩) (some ⟨w.heap.size + 1 + 1, 0, none⟩) 1 2 := by
    have b15 := (hb5.block _ (Array.getElem?_eq_some_iff.1 b14).1).trans b14
    have b25 := (hb5.block _ (Array.getElem?_eq_some_iff.1 b24).1).trans b24
    have i5 := (hb5.block _ (Array.getElem?_eq_some_iff.1 i4).1).trans i4
    exact ⟨words_at (ws := [[97]]) n5 (by decide), files2_at (n1 := [97]) (b1 := [35, 105, 110, 99, 108, 117, 100, 101, 32, 98]) (n2 := [98]) (b2 := [121]) b25 (Nat.le_refl _) (bytes_at (b := [35, 105, 110, 99, 108, 117, 100, 101, 32, 98]) i5 (by decide)) (Nat.le_refl _) (bytes_at (b := [121]) b15 (by decide)), by decide, by decide, by decide⟩
  have hC2 := Cook_at [105, 110, 99, 32, 97, 32, 62, 32, 111, 32, 58, 32, 100] (by decide) av2 1 2 1 2 _ _ W5 hG2 (htH.out.below (hbw4.trans (hb5.mono hbw4.size))) rfl rfl _ rfl
  rw [awake_second] at hC2
  have hC2H := Lib.hid hC2
  have d4H := Lib.hid d4
  have hbw4H := Lib.hid hbw4
  have hb5H := Lib.hid hb5
  have hkH := Lib.hid hkeep
  have hsz : Hid (W2.heap.size ≤ W4.heap.size) := by show _ ≤ _; omega
  have hlw : Hid (w.heap.size + 1 + 1 < W2.heap.size) := hlt
  clear hG2 hC2 d4 hbw4 hb5 hkeep b1 b2 b13 b14 b24 hks hss d3 i3 i4 n5 hb3 hlt hs3
  go_wp2_with fail
  refine hC2H.out.mono ?_
  rintro e W6 ⟨hb6, vo2, names2, bb, hd2, rfl, ho2⟩
  injection hd2 with hd2 _ _ _
  obtain ⟨rfl, rfl⟩ := names1 hd2
  obtain ⟨Ao2, co2, rfl⟩ := ho2.form
  dsimp only
  obtain ⟨W7, hW7⟩ : ∃ W7, W6.alloc (.cells #[.slice Ao2 1 co2, .bool false, .string (B [100]), .string (B [111, 58, 32, 98, 10])] 30) = W7 := ⟨_, rfl⟩
  have hb7 : Below W6.heap.size W6 W7 := by rw [← hW7]; exact (Below.refl _ _).alloc (Nat.le_refl _) _
  have hb47 : Below W4.heap.size W4 W7 := hb5H.out.trans ((hb6.trans (hb7.mono hb6.size)).mono hb5H.out.size)
  have x7 : W7.heap[W6.heap.size]? = some (.cells #[.slice Ao2 1 co2, .bool false, .string (B [100]), .string (B [111, 58, 32, 98, 10])] 30 (0, 0)) := by rw [← hW7]; exact heap_alloc_new _ _
  have d7 := (hb47.block _ (Array.getElem?_eq_some_iff.1 d4H.out).1).trans d4H.out
  have ho7 := ho2.move (w' := W7) (fun k _ h => hb7.block k h)
  have hoA := hoH.out.move (w' := W7) (fun k h1 h2 => (hb47.block k (Nat.lt_of_lt_of_le h2 hsz.out)).trans (hkH.out k (by have h3 : W1.heap.size = w.heap.size + 4 := hs1; omega) h2))
  obtain ⟨g1, o1, Ab1, cb1, rfl, hc1, p0, p1, pl, pC⟩ := hoA.one
  obtain ⟨g2, o2, Ab2, cb2, rfl, hc2, r0, r1, rl, rC⟩ := ho7.one
  have cv1 : (convert 24 9 (.slice Ab1 2 cb1)).run Tryz.prog W7 = .ok (.string (B [120, 121])) W7 := conv_txt (b := [120, 121]) pC
  have cv2 : (convert 24 9 (.slice Ab2 1 cb2)).run Tryz.prog W7 = .ok (.string (B [121])) W7 := conv_txt (b := [121]) rC
  have p1' : W7.cell? ⟨g1, o1 + 1, none⟩ = some (.slice Ab1 2 cb1) := p1
  have r1' : W7.cell? ⟨g2, o2 + 1, none⟩ = some (.slice Ab2 1 cb2) := r1
  have y0 := (cell_of_heap (j := 0) d7).trans rfl
  have z0 := (cell_of_heap (j := 0) x7).trans rfl
  have z2 := (cell_of_heap (j := 2) x7).trans rfl
  have z3 := (cell_of_heap (j := 3) x7).trans rfl
  have hend : Hid (Below w.heap.size w W7) := hbw4H.out.trans (hb47.mono hbw4H.out.size)
  clear hb6 ho2 hoA ho7 hb7 hb47 x7 d7 pC rC p1 r1 pl rl hW3 hW4 hW5 kc kc2
  go_wp2_with fail
  go_ret
  exact ⟨rfl, hend.out⟩
end Go.Proofs.YtbklhcjcgiblkaaGreatDoor.Ck
end
section
namespace Go.Proofs.YtbklhcjcgiblkaaGreatDoor.P
open Go.RowKit Go.Proofs.YtbklhcjcgiblkaaGreatDoorW.PrintWords Go.Proofs.YtbklhcjcgiblkaaGreatDoorW.PrintLast Go.Proofs.YtbklhcjcgiblkaaGreatDoorW.PrintMore
attribute [local go_sem] max2_int min2_int max_two min_two max_three min_three max_four min_four
set_option linter.unusedVariables false
set_option linter.unusedSimpArgs false
def bellowslaw15_of.l0 : Nat → List (S41) → List (S59) → Int → Option ((List (S59)))
  | 0, _, _, _ => none
  | k + 1, x0, x3, x4 => if x4 < (x0.length : Int) then (if 0 ≤ x4 then ((some (([] : List Int) : List Int)).bind fun y104 => (if y104.length + ((rd_T41 x0 x4).f1).length < 140737488355328 then (if x3.length < 3518437208883 then (bellowslaw15_of.l0 k x0 (x3 ++ [(⟨(rd_T41 x0 x4).f0, (y104 ++ ((rd_T41 x0 x4).f1))⟩ : S59)]) (wrap64 (x4 + 1))) else (none)) else (none))) else (none)) else (some x3)
def bellowslaw15_of.f (k : Nat) (l0 : List (S41)) : Option ((List (S59))) := bellowslaw15_of.l0 k l0 ([] : List (S59)) 0
theorem bellowslaw15_of.mono_l : ∀ k, (∀ y0 y1 y2, LeO (bellowslaw15_of.l0 k y0 y1 y2) (bellowslaw15_of.l0 (k + 1) y0 y1 y2))
  | 0 => fun _ _ _ r h => by simp [bellowslaw15_of.l0] at h
  | k + 1 => by
    have ih0 := bellowslaw15_of.mono_l k
    · intro y0 y1 y2
      unfold bellowslaw15_of.l0
      repeat' first
      | (with_reducible exact ih0 _ _ _)
      | (with_reducible exact LeO.refl _)
      | (with_reducible exact LeO.none _)
      | (with_reducible refine LeO.ite ?_ ?_)
      | (with_reducible refine LeO.bind ?_ (fun _ => ?_))
      | exact ih0 _ _ _
      | exact LeO.none _
      | refine LeO.ite ?_ ?_
      | refine LeO.bind ?_ (fun _ => ?_)
theorem bellowslaw15_of.mono : ∀ a0 k, LeO (bellowslaw15_of.f k a0) (bellowslaw15_of.f (k + 1) a0) := by
  intro a0 k
  have ih0 := bellowslaw15_of.mono_l k
  unfold bellowslaw15_of.f
  repeat' first
      | (with_reducible exact ih0 _ _ _)
      | (with_reducible exact LeO.refl _)
      | (with_reducible exact LeO.none _)
      | (with_reducible refine LeO.ite ?_ ?_)
      | (with_reducible refine LeO.bind ?_ (fun _ => ?_))
      | exact ih0 _ _ _
      | exact LeO.none _
      | refine LeO.ite ?_ ?_
      | refine LeO.bind ?_ (fun _ => ?_)
def bellowslaw15_of.T5 : Bool × List (List Nat × List Nat) := (true, [([], []), ([], []), ([], []), ([1, 2], [1, 2]), ([3], [3]), ([4], [4]), ([], []), ([], []), ([], []), ([7, 8], [7, 8]), ([9], [9]), ([10], [10]), ([6, 11], [6, 11]), ([5, 12], [5, 12]), ([13], [13]), ([0, 14, 12], [0, 14]), ([15, 15, 0, 1, 2, 3, 4, 5, 6, 7, 8, 9, 10, 11, 12, 13, 14, 15], [0, 15])])
def bellowslaw15_of.B5 : List Nat := [0, 0, 0, 6, 14, 30, 0, 0, 0, 384, 896, 1920, 4032, 8190, 16382, 32767, 65535]
theorem bellowslaw15_of.tab5 : rtab .any (opsOf Tryz.f6 5) = bellowslaw15_of.T5 := by kernel_rfl
theorem bellowslaw15_of.bits5 : waitsOk bellowslaw15_of.T5.2 bellowslaw15_of.B5 = true := by kernel_rfl
set_option maxHeartbeats 8000000 in
set_option maxRecDepth 100000 in
theorem bellowslaw15_of.calls (k : Nat) (A0 : Option Addr) (c0 : Nat) (l0 : List (S41)) (r : List (S59)) (w : World) (hr0 : Kd.C k41 w A0 l0.length l0) (hc0 : l0.length ≤ c0) (h : bellowslaw15_of.f k l0 = some r) :
    Calls Tryz.prog 6 #[.slice A0 l0.length c0] w fun e w' => ∃ v0_ : Value, e = .returned (v0_) ∧ Kd.S k59 59 w' w.heap.size (fun _ => True) v0_ r ∧ Below w.heap.size w w' := by
  have hu59 := Tryz.underlying59
  have HR0 := Aside0.mk hr0
  have HC0 := Aside0.mk hc0
  clear hr0 hc0
  have HB := Aside0.mk (Below.refl w.heap.size w)
  have H : (bellowslaw15_of.l0 k l0 ([] : List (S59)) 0) = some r := h
  clear h
  have H' := Aside0.mk H
  clear H
  go_enter Tryz.func6, Tryz.ntmps6
  go_wp2
  go_loopg [3, 4] k (fun kq v3 v4 w' => ∃ (x3_1 : List (S59)) (x4_1 : Int), v4 = .int .i64 x4_1 ∧ Aside0 (bellowslaw15_of.l0 kq l0 x3_1 x4_1 = some r) ∧ Aside0 (kq ≤ k) ∧ Aside0 (Kd.S k59 59 w' w.heap.size (fun _ => True) v3 x3_1) ∧ Aside0 (Below w.heap.size w w'))
  case atStart => exact ⟨(([] : List (S59))), (0), (by first | rfl | (simp; done) | (simp [*]; done)), H', ⟨Nat.le_refl _⟩, ⟨by first | exact Kd.S_nil _ _ _ _ _ | exact Kd.N_nil _ _ _ _ _ | exact Kd.V_nil _ _ _ _ _ | exact Kd.Q_nil _ _ _ _ _ | exact Kd.R_nil _ _ _ _ _⟩, ⟨by repeat (first | (with_reducible first | exact HB.out | apply below_alloc | apply pw_below_drewN | apply below_drew1) | exact HB.out)⟩⟩
  case round =>
    clear H'
    obtain ⟨x3_1, x4_1, rfl, HA, HK1, HO_3, HB⟩ := hrel
    cases gk with
    | zero => exact absurd HA.out (by simp [bellowslaw15_of.l0])
    | succ k1 =>
      have H := HA.out
      clear HA
      simp only [bellowslaw15_of.l0] at H
      by_cases c2 : x4_1 < (l0.length : Int)
      · rw [if_pos c2] at H
        have c2b0 : decide (x4_1 < (l0.length : Int)) = true := decide_eq_true c2
        clear c2
        by_cases c3 : 0 ≤ x4_1
        · rw [if_pos c3] at H
          have c3b0 : decide (0 ≤ x4_1) = true := decide_eq_true c3
          clear c3
          obtain ⟨y104, hy104⟩ : ∃ y_ : List Int, y_ = (([] : List Int)) := ⟨_, rfl⟩
          replace H : (if y104.length + ((rd_T41 l0 x4_1).f1).length < 140737488355328 then (if x3_1.length < 3518437208883 then (bellowslaw15_of.l0 k1 l0 (x3_1 ++ [(⟨(rd_T41 l0 x4_1).f0, (y104 ++ ((rd_T41 l0 x4_1).f1))⟩ : S59)]) (wrap64 (x4_1 + 1))) else (none)) else (none)) = some r := by first | (rw [hy104]; with_reducible exact H) | (have H2_ := (Option.bind_some _ _).symm.trans H; rw [hy104]; with_reducible exact H2_) | (have H2_ := (Option.bind_some _ _).symm.trans H; with_reducible exact H2_) | with_reducible exact H | (rw [hy104]; exact H) | exact H
          have Ny104 := Aside0.mk hy104
          clear hy104
          by_cases c4 : y104.length + ((rd_T41 l0 x4_1).f1).length < 140737488355328
          · rw [if_pos c4] at H
            have LMc4 := Aside0.mk c4
            clear c4
            obtain ⟨y108, hy108⟩ : ∃ y_ : List Int, y_ = (y104 ++ ((rd_T41 l0 x4_1).f1)) := ⟨_, rfl⟩
            replace H : (if x3_1.length < 3518437208883 then (bellowslaw15_of.l0 k1 l0 (x3_1 ++ [(⟨(rd_T41 l0 x4_1).f0, y108⟩ : S59)]) (wrap64 (x4_1 + 1))) else (none)) = some r := by first | (rw [hy108]; with_reducible exact H) | (have H2_ := (Option.bind_some _ _).symm.trans H; rw [hy108]; with_reducible exact H2_) | (have H2_ := (Option.bind_some _ _).symm.trans H; with_reducible exact H2_) | with_reducible exact H | (rw [hy108]; exact H) | exact H
            have Ny108 := Aside0.mk hy108
            clear hy108
            by_cases c5 : x3_1.length < 3518437208883
            · rw [if_pos c5] at H
              have LMc5 := Aside0.mk c5
              clear c5
              obtain ⟨y111, hy111⟩ : ∃ y_ : List (S59), y_ = (x3_1 ++ [(⟨(rd_T41 l0 x4_1).f0, y108⟩ : S59)]) := ⟨_, rfl⟩
              replace H : (bellowslaw15_of.l0 k1 l0 y111 (wrap64 (x4_1 + 1))) = some r := by first | (rw [hy111]; with_reducible exact H) | (have H2_ := (Option.bind_some _ _).symm.trans H; rw [hy111]; with_reducible exact H2_) | (have H2_ := (Option.bind_some _ _).symm.trans H; with_reducible exact H2_) | with_reducible exact H | (rw [hy111]; exact H) | exact H
              have Ny111 := Aside0.mk hy111
              clear hy111
              have H' := Aside0.mk H
              clear H
              try go_wp2
              have n0_ := Aside0.mk (Kd.S_drew HO_3.out)
              have n1_ := Aside0.mk (below_drew1 HB.out)
              clear HO_3
              clear HB
              have HO_3 := n0_
              have HB := n1_
              clear n0_ n1_
              have p103 : 0 ≤ (x4_1 : Int) := of_decide_eq_true (by first | (with_reducible assumption) | assumption)
              have q103 : x4_1 < (l0.length : Int) := of_decide_eq_true (by first | (with_reducible assumption) | assumption)
              obtain ⟨ad103, A103_1, c103_1, e103, hx103_0, hx103_1, hl103_1, hi103_1⟩ := at_T41 HR0.out x4_1 p103 q103
              have hw103_1 := hx103_1
              have hw103_0 := hx103_0
              cases e103
              replace hx103_0 := (HB.out.cell (World.block_lt_of_cell? w _ hx103_0)).trans hx103_0
              replace hx103_1 := (HB.out.cell (World.block_lt_of_cell? w _ hx103_1)).trans hx103_1
              have HR103_1 := Aside0.mk hi103_1
              have HC103_1 := Aside0.mk hl103_1
              clear hi103_1 hl103_1
              replace p103 := eq_true p103
              replace q103 := eq_true q103
              have p107 : 0 ≤ (x4_1 : Int) := of_decide_eq_true (by first | (with_reducible assumption) | assumption)
              have q107 : x4_1 < (l0.length : Int) := of_decide_eq_true (by first | (with_reducible assumption) | assumption)
              obtain ⟨ad107, A107_1, c107_1, e107, hx107_0, hx107_1, hl107_1, hi107_1⟩ := at_T41 HR0.out x4_1 p107 q107
              have hw107_1 := hx107_1
              have hw107_0 := hx107_0
              obtain rfl : ad103 = ad107 := (by injection e107)
              replace hx107_0 := (HB.out.cell (World.block_lt_of_cell? w _ hx107_0)).trans hx107_0
              replace hx107_1 := (HB.out.cell (World.block_lt_of_cell? w _ hx107_1)).trans hx107_1
              have HR107_1 := Aside0.mk hi107_1
              have HC107_1 := Aside0.mk hl107_1
              clear hi107_1 hl107_1
              replace p107 := eq_true p107
              replace q107 := eq_true q107
              have ea_ := Option.some.inj (hx103_1.symm.trans hx107_1)
              injection ea_ with ea_ en_ ec_
              subst ea_
              subst ec_
              clear en_
              refine start_ (n := 17) (S := fun w' => w'.cell? (ad103.add ((x4_1).toNat * 2)) = some (.string ((rd_T41 l0 x4_1).f0)) ∧ w'.cell? ⟨(ad103.add ((x4_1).toNat * 2)).block, (ad103.add ((x4_1).toNat * 2)).off + 1, none⟩ = some (.slice A103_1 ((rd_T41 l0 x4_1).f1).length c103_1) ∧ w'.cell? (ad103.add ((x4_1).toNat * 2)) = some (.string ((rd_T41 l0 x4_1).f0)) ∧ w'.cell? ⟨(ad103.add ((x4_1).toNat * 2)).block, (ad103.add ((x4_1).toNat * 2)).off + 1, none⟩ = some (.slice A103_1 ((rd_T41 l0 x4_1).f1).length c103_1)) (ds := []) #[false, false, false, false, false, false, false, false, false, false, false, false, false, false, false, false, false] (by kernel_rfl) rfl rfl ⟨((HB.out.cell (World.block_lt_of_cell? w _ hw103_0)).trans hw103_0), ((HB.out.cell (World.block_lt_of_cell? w _ hw103_1)).trans hw103_1), ((HB.out.cell (World.block_lt_of_cell? w _ hw107_0)).trans hw107_0), ((HB.out.cell (World.block_lt_of_cell? w _ hw107_1)).trans hw107_1)⟩ (fun hHeld => ?_); refine with_tabW bellowslaw15_of.tab5 bellowslaw15_of.bits5 (fun HT_ HW_ => ?_)
              generalize wr.drew = w6 at HO_3 HB HR103_1 HR107_1 hx103_0 hx103_1 hx107_0 hx107_1 hHeld ⊢
              refine pure_ (i := 0) (N := some 11) (v := ?_) (a' := ?_) #[true, false, false, false, false, false, false, false, false, false, false, false, false, false, false, false, false] rfl rfl (any_of HT_.out (by kernel_rfl)) (fun _ _ _ h => h) (Or.inl ⟨by rfl, ?_⟩) ?_ ?_
              rotate_left
              · intro w'
                go_simp
                with_reducible rfl
              rotate_left
              · simp only [Act.put, pA,pB,pC, i64_w, i32_w]
                rfl
              refine pure_ (i := 1) (N := some 12) (v := ?_) (a' := ?_) #[true, true, false, false, false, false, false, false, false, false, false, false, false, false, false, false, false] rfl rfl (any_of HT_.out (by kernel_rfl)) (fun _ _ _ h => h) (Or.inl ⟨by rfl, ?_⟩) ?_ ?_
              rotate_left
              · intro w'
                go_simp
                with_reducible rfl
              rotate_left
              · simp only [Act.put, pA,pB,pC, i64_w, i32_w]
                rfl
              refine pure_ (i := 2) (N := some 13) (v := ?_) (a' := ?_) #[true, true, true, false, false, false, false, false, false, false, false, false, false, false, false, false, false] rfl rfl (any_of HT_.out (by kernel_rfl)) (fun _ _ _ h => h) (Or.inl ⟨by rfl, ?_⟩) ?_ ?_
              rotate_left
              · intro w'
                go_simp
                with_reducible rfl
              rotate_left
              · simp only [Act.put, pA,pB,pC, i64_w, i32_w]
                rfl
              refine pure_ (i := 3) (N := some 14) (v := ?_) (a' := ?_) #[true, true, true, true, false, false, false, false, false, false, false, false, false, false, false, false, false] rfl rfl (any_of HT_.out (by kernel_rfl)) (fun _ _ _ h => h) (Or.inl ⟨by rfl, ?_⟩) ?_ ?_
              rotate_left
              · intro w'
                go_simp
                with_reducible rfl
              rotate_left
              · simp only [Act.put, pA,pB,pC, i64_w, i32_w]
                rfl
              refine pure_ (i := 4) (N := some 15) (v := ?_) (a' := ?_) #[true, true, true, true, true, false, false, false, false, false, false, false, false, false, false, false, false] rfl rfl (any_of HT_.out (by kernel_rfl)) (fun _ _ _ h => h) (Or.inl ⟨by rfl, ?_⟩) ?_ ?_
              rotate_left
              · intro w'
                go_simp
                with_reducible rfl
              rotate_left
              · simp only [Act.put, pA,pB,pC, i64_w, i32_w]
                rfl
              refine pure_ (i := 7) (N := some 18) (v := ?_) (a' := ?_) #[true, true, true, true, true, false, false, true, false, false, false, false, false, false, false, false, false] rfl rfl (any_of HT_.out (by kernel_rfl)) (fun _ _ _ h => h) (Or.inl ⟨by rfl, ?_⟩) ?_ ?_
              rotate_left
              · intro w'
                go_simp
                with_reducible rfl
              rotate_left
              · simp only [Act.put, pA,pB,pC, i64_w, i32_w]
                rfl
              refine pure_ (i := 8) (N := some 19) (v := ?_) (a' := ?_) #[true, true, true, true, true, false, false, true, true, false, false, false, false, false, false, false, false] rfl rfl (any_of HT_.out (by kernel_rfl)) (fun _ _ _ h => h) (Or.inl ⟨by rfl, ?_⟩) ?_ ?_
              rotate_left
              · intro w'
                go_simp
                with_reducible rfl
              rotate_left
              · simp only [Act.put, pA,pB,pC, i64_w, i32_w]
                rfl
              refine pure_ (i := 9) (N := some 20) (v := ?_) (a' := ?_) #[true, true, true, true, true, false, false, true, true, true, false, false, false, false, false, false, false] rfl rfl (any_of HT_.out (by kernel_rfl)) (fun _ _ _ h => h) (Or.inl ⟨by rfl, ?_⟩) ?_ ?_
              rotate_left
              · intro w'
                go_simp
                with_reducible rfl
              rotate_left
              · simp only [Act.put, pA,pB,pC, i64_w, i32_w]
                rfl
              refine pure_ (i := 10) (N := some 21) (v := ?_) (a' := ?_) #[true, true, true, true, true, false, false, true, true, true, true, false, false, false, false, false, false] rfl rfl (any_of HT_.out (by kernel_rfl)) (fun _ _ _ h => h) (Or.inl ⟨by rfl, ?_⟩) ?_ ?_
              rotate_left
              · intro w'
                go_simp
                with_reducible rfl
              rotate_left
              · simp only [Act.put, pA,pB,pC, i64_w, i32_w]
                rfl
              refine take_ (i := 5) (N := some 16) (v := ?_) (a' := ?_) #[true, true, true, true, true, true, false, true, true, true, true, false, false, false, false, false, false] rfl rfl (take_ofW HT_.out HW_.out (by kernel_rfl)) (fun _ _ _ h => h) (Or.inl ⟨by rfl, ?_⟩) hHeld ?_ ?_
              rotate_left
              · rintro w' ⟨s0, s1, s2, s3⟩
                go_simp
                with_reducible rfl
              rotate_left
              · simp only [Act.put, pA,pB,pC, i64_w, i32_w]
                rfl
              refine take_ (i := 11) (N := some 22) (v := ?_) (a' := ?_) #[true, true, true, true, true, true, false, true, true, true, true, true, false, false, false, false, false] rfl rfl (take_ofW HT_.out HW_.out (by kernel_rfl)) (fun _ _ _ h => h) (Or.inl ⟨by rfl, ?_⟩) hHeld ?_ ?_
              rotate_left
              · rintro w' ⟨s0, s1, s2, s3⟩
                go_simp
                with_reducible rfl
              rotate_left
              · simp only [Act.put, pA,pB,pC, i64_w, i32_w]
                rfl
              refine one_ (i := 6) (N := some 17) #[true, true, true, true, true, true, true, true, true, true, true, true, false, false, false, false, false] rfl rfl (one_of HT_.out (by kernel_rfl)) (by decide) (fun K hK => ?_)
              refine Kd.R_lit_step (Kd.int .u8) _ 5 ?hg (N := 17) ?hd (xs := ([] : List Int)) (inner := []) (ok := fun _ => True) (okp := fun _ => True) ?hr ?hp (fun _ hk => hk) trivial (Below.refl _ _) (Nat.le_refl _) (by simp) ?_; (case hd => rfl); (case hg => rfl); (case hr => first | (go_simp; done) | (go_simp; rfl)); (case hp => exact (Reps.none _ _))
              intro v105 w7 ho8 hb hg_ hnew_
              clear hg_ hnew_
              (first | rw [← Ny104.out] at ho8 | (simp only [Int.reduceToNat] at ho8; rw [← Ny104.out] at ho8))
              have n0_ := Aside0.mk (Kd.S_elder' (by (with_reducible repeat (first | apply Kd.S_alloc | apply Kd.S_drewN | apply Kd.S_drew)); exact HO_3.out) (Kd.R_base ho8) hb)
              have n1_ := Aside0.mk (Kd.R_lower ho8 (below_size (by repeat (first | (with_reducible first | exact HB.out | apply below_alloc | apply pw_below_drewN | apply below_drew1) | exact HB.out))))
              have n2_ := Aside0.mk (below_step (by repeat (first | (with_reducible first | exact HB.out | apply below_alloc | apply pw_below_drewN | apply below_drew1) | exact HB.out)) hb)
              clear HO_3
              clear HB
              have HO_3 := n0_
              have HO106 := n1_
              have HB := n2_
              clear n0_ n1_ n2_
              clear hb ho8
              refine hK.out _ _ ⟨((HB.out.cell (World.block_lt_of_cell? w _ hw103_0)).trans hw103_0), ((HB.out.cell (World.block_lt_of_cell? w _ hw103_1)).trans hw103_1), ((HB.out.cell (World.block_lt_of_cell? w _ hw107_0)).trans hw107_0), ((HB.out.cell (World.block_lt_of_cell? w _ hw107_1)).trans hw107_1)⟩ (fun hHeld => ?_)
              clear hK K
              refine norm_ (a' := ?_) ?_ ?_
              rotate_left
              · show Act.put _ (some 17) _ = _
                simp only [Act.put, pA,pB,pC, i64_w, i32_w]
                rfl
              refine one_ (i := 12) (N := some 23) #[true, true, true, true, true, true, true, true, true, true, true, true, true, false, false, false, false] rfl rfl (one_of HT_.out (by kernel_rfl)) (by decide) (fun K hK => ?_)
              refine Kd.R_append_rows_step (Kd.int .u8) (w0 := w) w.heap.size (by rfl) (.tmp 17) (.tmp 22) 24 5 (.int .u8 0) 1 rfl Tryz.underlying24 info5 rfl (by decide) (by omega) v105 y104 ((rd_T41 l0 x4_1).f1) _ _ _ (fun _ => True) (fun _ => False) rfl rfl ?aO ?aR (fun _ _ h => h) (fun _ h => h.elim) ?aF ?aB ?aS ?aL ?_
              (case aR => repeat (first | exact (Kd.C_below HR107_1.out HB.out) | (with_reducible refine Kd.C_alloc ?_ _) | (with_reducible refine Kd.C_drewN ?_ _) | (with_reducible refine Kd.C_drew ?_)))
              (case aB => exact (by repeat (first | (with_reducible first | exact HB.out | apply below_alloc | apply pw_below_drewN | apply below_drew1) | exact HB.out)))
              (case aF => exact (fun _ _ => trivial))
              (case aO => exact (by (with_reducible repeat (first | apply Kd.R_alloc | apply Kd.R_drewN | apply Kd.R_drew)); exact HO106.out))
              (case aS => exact (below_size (by repeat (first | (with_reducible first | exact HB.out | apply below_alloc | apply pw_below_drewN | apply below_drew1) | exact HB.out))))
              (case aL => have := LMc4.out; omega)
              intro v109 w9 ho hb hg hat
              rw [← Ny108.out] at ho
              have n0_ := Aside0.mk (Kd.S_after (ok := (fun _ => True)) (by (with_reducible repeat (first | apply Kd.S_alloc | apply Kd.S_drewN | apply Kd.S_drew)); exact HO_3.out) hg hat)
              have n1_ := Aside0.mk (hb)
              have n2_ := Aside0.mk (ho)
              clear HO_3
              clear HB
              clear HO106
              have HO_3 := n0_
              have HB := n1_
              have HO110 := n2_
              clear n0_ n1_ n2_
              clear ho hb hg hat
              obtain ⟨Ao10, co10, eo10⟩ := Kd.R_slice HO110.out
              (first | subst eo10 | (injection eo10 with f1_ f2_ f3_; have f4_ := f1_.symm; have f5_ := f3_.symm; clear f1_ f2_ f3_; subst f4_; subst f5_))
              refine hK.out _ _ ⟨((HB.out.cell (World.block_lt_of_cell? w _ hw103_0)).trans hw103_0), ((HB.out.cell (World.block_lt_of_cell? w _ hw103_1)).trans hw103_1), ((HB.out.cell (World.block_lt_of_cell? w _ hw107_0)).trans hw107_0), ((HB.out.cell (World.block_lt_of_cell? w _ hw107_1)).trans hw107_1)⟩ (fun hHeld => ?_)
              clear hK K
              refine norm_ (a' := ?_) ?_ ?_
              rotate_left
              · show Act.put _ (some 23) _ = _
                simp only [Act.put, pA,pB,pC, i64_w, i32_w]
                rfl
              refine pure_ (i := 13) (N := some 24) (v := ?_) (a' := ?_) #[true, true, true, true, true, true, true, true, true, true, true, true, true, true, false, false, false] rfl rfl (any_of HT_.out (by kernel_rfl)) (fun _ _ _ h => h) (Or.inl ⟨by rfl, ?_⟩) ?_ ?_
              rotate_left
              · intro w'
                go_simp
                with_reducible rfl
              rotate_left
              · simp only [Act.put, pA,pB,pC, i64_w, i32_w]
                rfl
              refine one_ (i := 14) (N := some 25) #[true, true, true, true, true, true, true, true, true, true, true, true, true, true, true, false, false] rfl rfl (one_of HT_.out (by kernel_rfl)) (by decide) (fun K hK => ?_)
              refine value_ (w1 := ?_) (v := ?_) (by rfl) rfl ?_ ?_
              rotate_left 2
              · go_simp
                constructor
                · rfl
                · rfl
              refine hK.out _ _ ⟨(World.cell?_alloc_lt _ _ _ (World.block_lt_of_cell? _ _ (((HB.out.cell (World.block_lt_of_cell? w _ hw103_0)).trans hw103_0)))).trans (((HB.out.cell (World.block_lt_of_cell? w _ hw103_0)).trans hw103_0)), (World.cell?_alloc_lt _ _ _ (World.block_lt_of_cell? _ _ (((HB.out.cell (World.block_lt_of_cell? w _ hw103_1)).trans hw103_1)))).trans (((HB.out.cell (World.block_lt_of_cell? w _ hw103_1)).trans hw103_1)), (World.cell?_alloc_lt _ _ _ (World.block_lt_of_cell? _ _ (((HB.out.cell (World.block_lt_of_cell? w _ hw107_0)).trans hw107_0)))).trans (((HB.out.cell (World.block_lt_of_cell? w _ hw107_0)).trans hw107_0)), (World.cell?_alloc_lt _ _ _ (World.block_lt_of_cell? _ _ (((HB.out.cell (World.block_lt_of_cell? w _ hw107_1)).trans hw107_1)))).trans (((HB.out.cell (World.block_lt_of_cell? w _ hw107_1)).trans hw107_1))⟩ (fun hHeld => ?_)
              clear hK K
              refine norm_ (a' := ?_) ?_ ?_
              rotate_left
              · show Act.put _ (some 25) _ = _
                simp only [Act.put, pA,pB,pC, i64_w, i32_w]
                rfl
              refine one_ (i := 15) (N := some 26) #[true, true, true, true, true, true, true, true, true, true, true, true, true, true, true, true, false] rfl rfl (one_of HT_.out (by kernel_rfl)) (by decide) (fun K hK => ?_)
              refine Kd.S_append_step k59 (w0 := w) w.heap.size (by rfl) (.tmp 11) (.tmp 25) 28 59 (.agg #[(.string ⟨#[]⟩), (.slice none 0 0)]) 40 rfl Tryz.underlying28 info59 rfl (by decide) (by omega) u3 x3_1 (⟨(rd_T41 l0 x4_1).f0, y108⟩ : S59) [.string ((rd_T41 l0 x4_1).f0), .slice Ao10 y108.length co10] (fun _ => True) (fun k_ => some k_ = (.slice Ao10 y108.length co10 : Value).ownBlock) rfl rfl ?aP (fun k_ hk_ => ((Kd.R_mono (ok' := fun k_ => ((fun _ => True)) k_ ∧ some k_ ≠ (u3 : Value).ownBlock) (Kd.R_apart' (HO110.out) (Kd.S_typed HO_3.out) (by decide)) (fun k_ hk => ⟨trivial, hk.2⟩))).1 k_ hk_.symm) ?aF ?aO ?aB ?aS ?aL ?_
              (case aP => exact k59_mkM _ _ _ (⟨(rd_T41 l0 x4_1).f0, y108⟩ : S59) (Kd.R_mono (Kd.R_tight rfl (Kd.R_mono (ok' := fun k_ => ((fun _ => True)) k_ ∧ some k_ ≠ (u3 : Value).ownBlock) (Kd.R_apart' (HO110.out) (Kd.S_typed HO_3.out) (by decide)) (fun k_ hk => ⟨trivial, hk.2⟩))) (fun _ h_ => h_)))
              (case aB => exact (by repeat (first | (with_reducible first | exact HB.out | apply below_alloc | apply pw_below_drewN | apply below_drew1) | exact HB.out)))
              (case aF => exact (fun _ _ => trivial))
              (case aO => exact (by (with_reducible repeat (first | apply Kd.S_alloc | apply Kd.S_drewN | apply Kd.S_drew)); exact Kd.S_mono HO_3.out (fun k_ hk => ⟨trivial, fun e_ => hk.2 e_⟩)))
              (case aS => exact (below_size (by repeat (first | (with_reducible first | exact HB.out | apply below_alloc | apply pw_below_drewN | apply below_drew1) | exact HB.out))))
              (case aL => have := LMc5.out; omega)
              intro v112 w11 ho hb hg hat
              rw [← Ny111.out] at ho
              have n0_ := Aside0.mk (hb)
              have n1_ := Aside0.mk (ho)
              clear HB
              clear HO_3
              clear HO110
              have HB := n0_
              have HO113 := n1_
              clear n0_ n1_
              clear ho hb hg hat
              refine hK.out _ _ ⟨((HB.out.cell (World.block_lt_of_cell? w _ hw103_0)).trans hw103_0), ((HB.out.cell (World.block_lt_of_cell? w _ hw103_1)).trans hw103_1), ((HB.out.cell (World.block_lt_of_cell? w _ hw107_0)).trans hw107_0), ((HB.out.cell (World.block_lt_of_cell? w _ hw107_1)).trans hw107_1)⟩ (fun hHeld => ?_)
              clear hK K
              refine norm_ (a' := ?_) ?_ ?_
              rotate_left
              · show Act.put _ (some 26) _ = _
                simp only [Act.put, pA,pB,pC, i64_w, i32_w]
                rfl
              refine pure_ (i := 16) (N := some 3) (v := ?_) (a' := ?_) #[true, true, true, true, true, true, true, true, true, true, true, true, true, true, true, true, true] rfl rfl (any_of HT_.out (by kernel_rfl)) (fun _ _ _ h => h) (Or.inl ⟨by rfl, ?_⟩) ?_ ?_
              rotate_left
              · intro w'
                go_simp
                with_reducible rfl
              rotate_left
              · simp only [Act.put, pA,pB,pC, i64_w, i32_w]
                rfl
              refine done_ (done_of HT_.out (by kernel_rfl)) ?_
              try go_wp2
              go_roundg k1
              case measure => have := HK1.out; omega
              case rel => exact ⟨(y111), (wrap64 (x4_1 + 1)), (by first | rfl | (simp; done) | (simp [*]; done)), H', ⟨by have := HK1.out; omega⟩, ⟨by (with_reducible repeat (first | apply Kd.S_alloc | apply Kd.S_drewN | apply Kd.S_drew)); exact HO113.out⟩, ⟨by repeat (first | (with_reducible first | exact HB.out | apply below_alloc | apply pw_below_drewN | apply below_drew1) | exact HB.out)⟩⟩
            · rw [if_neg c5] at H
              exact absurd H (by simp)
          · rw [if_neg c4] at H
            exact absurd H (by simp)
        · rw [if_neg c3] at H
          exact absurd H (by simp)
      · rw [if_neg c2] at H
        have c2b0 : decide (x4_1 < (l0.length : Int)) = false := decide_eq_false c2
        clear c2
        obtain rfl := Option.some.inj H
        go_wp2
        go_ret
        exact ⟨_, by first | rfl | (simp [errW_none, errW_some] <;> rfl) | (simp [*, errW_none, errW_some] <;> rfl), by (with_reducible repeat (first | apply Kd.S_alloc | apply Kd.S_drewN | apply Kd.S_drew)); exact HO_3.out, by repeat (first | (with_reducible first | exact HB.out | apply below_alloc | apply pw_below_drewN | apply below_drew1) | exact HB.out)⟩
end Go.Proofs.YtbklhcjcgiblkaaGreatDoor.P
end
section
namespace Go.Proofs.YtbklhcjcgiblkaaGreatDoor.P
open Go.RowKit Go.Proofs.YtbklhcjcgiblkaaGreatDoorW.PrintWords Go.Proofs.YtbklhcjcgiblkaaGreatDoorW.PrintLast Go.Proofs.YtbklhcjcgiblkaaGreatDoorW.PrintMore
attribute [local go_sem] max2_int min2_int max_two min_two max_three min_three max_four min_four
set_option linter.unusedVariables false
set_option linter.unusedSimpArgs false
def bellowslaw15_light.l0 : Nat → List (S41) → Int → Option (Bool)
  | 0, _, _ => none
  | k + 1, x0, x3 => if x3 < (x0.length : Int) then (if 0 ≤ x3 then (if (((rd_T41 x0 x3).f1).length : Int) > 200 then (some false) else (if (((rd_T41 x0 x3).f0).size : Int) > 200 then (some false) else (bellowslaw15_light.l0 k x0 (wrap64 (x3 + 1))))) else (none)) else (some true)
def bellowslaw15_light.f (k : Nat) (l0 : List (S41)) : Option (Bool) := if (l0.length : Int) > 10 then (some false) else (bellowslaw15_light.l0 k l0 0)
theorem bellowslaw15_light.mono_l : ∀ k, (∀ y0 y1, LeO (bellowslaw15_light.l0 k y0 y1) (bellowslaw15_light.l0 (k + 1) y0 y1))
  | 0 => fun _ _ r h => by simp [bellowslaw15_light.l0] at h
  | k + 1 => by
    have ih0 := bellowslaw15_light.mono_l k
    · intro y0 y1
      unfold bellowslaw15_light.l0
      repeat' first
      | (with_reducible exact ih0 _ _)
      | (with_reducible exact LeO.refl _)
      | (with_reducible exact LeO.none _)
      | (with_reducible refine LeO.ite ?_ ?_)
      | (with_reducible refine LeO.bind ?_ (fun _ => ?_))
      | exact ih0 _ _
      | exact LeO.none _
      | refine LeO.ite ?_ ?_
      | refine LeO.bind ?_ (fun _ => ?_)
theorem bellowslaw15_light.mono : ∀ a0 k, LeO (bellowslaw15_light.f k a0) (bellowslaw15_light.f (k + 1) a0) := by
  intro a0 k
  have ih0 := bellowslaw15_light.mono_l k
  unfold bellowslaw15_light.f
  repeat' first
      | (with_reducible exact ih0 _ _)
      | (with_reducible exact LeO.refl _)
      | (with_reducible exact LeO.none _)
      | (with_reducible refine LeO.ite ?_ ?_)
      | (with_reducible refine LeO.bind ?_ (fun _ => ?_))
      | exact ih0 _ _
      | exact LeO.none _
      | refine LeO.ite ?_ ?_
      | refine LeO.bind ?_ (fun _ => ?_)
set_option maxHeartbeats 8000000 in
set_option maxRecDepth 100000 in
theorem bellowslaw15_light.calls (k : Nat) (A0 : Option Addr) (c0 : Nat) (l0 : List (S41)) (r : Bool) (w : World) (hr0 : Kd.C k41 w A0 l0.length l0) (hc0 : l0.length ≤ c0) (h : bellowslaw15_light.f k l0 = some r) :
    Calls Tryz.prog 4 #[.slice A0 l0.length c0] w fun e w' => e = .returned (.bool r) ∧ Drawn0 w w' := by
  have HR0 := Aside0.mk hr0
  have HC0 := Aside0.mk hc0
  clear hr0 hc0
  have H : (if (l0.length : Int) > 10 then (some false) else (bellowslaw15_light.l0 k l0 0)) = some r := h
  clear h
  by_cases c2 : (l0.length : Int) > 10
  · rw [if_pos c2] at H
    have c2b0 : decide (10 < (l0.length : Int)) = true := decide_eq_true c2
    have c2b1 : decide (10 < l0.length) = true := decide_eq_true (by omega)
    clear c2
    obtain rfl := Option.some.inj H
    go_enter Tryz.func4, Tryz.ntmps4
    go_wp2
    go_ret
    exact ⟨by first | rfl | (simp; done) | (simp [*]; done), by repeat (first | exact Drawn0.refl _ | apply Drawn0.step)⟩
  · rw [if_neg c2] at H
    have c2b0 : decide (10 < (l0.length : Int)) = false := decide_eq_false c2
    have c2b1 : decide (10 < l0.length) = false := decide_eq_false (by omega)
    clear c2
    have H' := Aside0.mk H
    clear H
    go_enter Tryz.func4, Tryz.ntmps4
    go_wp2
    go_loopg [3] k (fun kq v3 w' => ∃ (x3_1 : Int), v3 = .int .i64 x3_1 ∧ Aside0 (bellowslaw15_light.l0 kq l0 x3_1 = some r) ∧ Aside0 (kq ≤ k) ∧ Drawn0 w w')
    case atStart => exact ⟨(0), (by first | rfl | (simp; done) | (simp [*]; done)), H', ⟨Nat.le_refl _⟩, by repeat (first | exact Drawn0.refl _ | apply Drawn0.step)⟩
    case round =>
      clear H'
      try clear c2
      try clear c2b0
      try clear c2b1
      try clear p2
      obtain ⟨x3_1, rfl, HA, HK1, ⟨m1, rfl⟩⟩ := hrel
      cases gk with
      | zero => exact absurd HA.out (by simp [bellowslaw15_light.l0])
      | succ k1 =>
        have H := HA.out
        clear HA
        simp only [bellowslaw15_light.l0] at H
        by_cases c3 : x3_1 < (l0.length : Int)
        · rw [if_pos c3] at H
          have c3b0 : decide (x3_1 < (l0.length : Int)) = true := decide_eq_true c3
          clear c3
          by_cases c4 : 0 ≤ x3_1
          · rw [if_pos c4] at H
            have c4b0 : decide (0 ≤ x3_1) = true := decide_eq_true c4
            clear c4
            by_cases c5 : (((rd_T41 l0 x3_1).f1).length : Int) > 200
            · rw [if_pos c5] at H
              have c5b0 : decide (200 < (((rd_T41 l0 x3_1).f1).length : Int)) = true := decide_eq_true c5
              have c5b1 : decide (200 < ((rd_T41 l0 x3_1).f1).length) = true := decide_eq_true (by omega)
              clear c5
              obtain rfl := Option.some.inj H
              have p101 : 0 ≤ (x3_1 : Int) := of_decide_eq_true (by first | (with_reducible assumption) | assumption)
              have q101 : x3_1 < (l0.length : Int) := of_decide_eq_true (by first | (with_reducible assumption) | assumption)
              obtain ⟨ad101, A101_1, c101_1, e101, hx101_0, hx101_1, hl101_1, hi101_1⟩ := at_T41 HR0.out x3_1 p101 q101
              cases e101
              have HR101_1 := Aside0.mk hi101_1
              have HC101_1 := Aside0.mk hl101_1
              clear hi101_1 hl101_1
              replace p101 := eq_true p101
              replace q101 := eq_true q101
              go_wp2
              go_ret
              exact ⟨by first | rfl | (simp; done) | (simp [*]; done), by repeat (first | exact Drawn0.refl _ | apply Drawn0.step)⟩
            · rw [if_neg c5] at H
              have c5b0 : decide (200 < (((rd_T41 l0 x3_1).f1).length : Int)) = false := decide_eq_false c5
              have c5b1 : decide (200 < ((rd_T41 l0 x3_1).f1).length) = false := decide_eq_false (by omega)
              clear c5
              by_cases c6 : (((rd_T41 l0 x3_1).f0).size : Int) > 200
              · rw [if_pos c6] at H
                have c6b0 : decide (200 < (((rd_T41 l0 x3_1).f0).size : Int)) = true := decide_eq_true c6
                have c6b1 : decide (200 < ((rd_T41 l0 x3_1).f0).size) = true := decide_eq_true (by omega)
                clear c6
                obtain rfl := Option.some.inj H
                have p101 : 0 ≤ (x3_1 : Int) := of_decide_eq_true (by first | (with_reducible assumption) | assumption)
                have q101 : x3_1 < (l0.length : Int) := of_decide_eq_true (by first | (with_reducible assumption) | assumption)
                obtain ⟨ad101, A101_1, c101_1, e101, hx101_0, hx101_1, hl101_1, hi101_1⟩ := at_T41 HR0.out x3_1 p101 q101
                cases e101
                have HR101_1 := Aside0.mk hi101_1
                have HC101_1 := Aside0.mk hl101_1
                clear hi101_1 hl101_1
                replace p101 := eq_true p101
                replace q101 := eq_true q101
                have p102 : 0 ≤ (x3_1 : Int) := of_decide_eq_true (by first | (with_reducible assumption) | assumption)
                have q102 : x3_1 < (l0.length : Int) := of_decide_eq_true (by first | (with_reducible assumption) | assumption)
                obtain ⟨ad102, A102_1, c102_1, e102, hx102_0, hx102_1, hl102_1, hi102_1⟩ := at_T41 HR0.out x3_1 p102 q102
                obtain rfl : ad101 = ad102 := (by injection e102)
                have HR102_1 := Aside0.mk hi102_1
                have HC102_1 := Aside0.mk hl102_1
                clear hi102_1 hl102_1
                replace p102 := eq_true p102
                replace q102 := eq_true q102
                have ea_ := Option.some.inj (hx101_1.symm.trans hx102_1)
                injection ea_ with ea_ en_ ec_
                subst ea_
                subst ec_
                clear en_
                go_wp2
                go_ret
                exact ⟨by first | rfl | (simp; done) | (simp [*]; done), by repeat (first | exact Drawn0.refl _ | apply Drawn0.step)⟩
              · rw [if_neg c6] at H
                have c6b0 : decide (200 < (((rd_T41 l0 x3_1).f0).size : Int)) = false := decide_eq_false c6
                have c6b1 : decide (200 < ((rd_T41 l0 x3_1).f0).size) = false := decide_eq_false (by omega)
                clear c6
                have H' := Aside0.mk H
                clear H
                have p101 : 0 ≤ (x3_1 : Int) := of_decide_eq_true (by first | (with_reducible assumption) | assumption)
                have q101 : x3_1 < (l0.length : Int) := of_decide_eq_true (by first | (with_reducible assumption) | assumption)
                obtain ⟨ad101, A101_1, c101_1, e101, hx101_0, hx101_1, hl101_1, hi101_1⟩ := at_T41 HR0.out x3_1 p101 q101
                cases e101
                have HR101_1 := Aside0.mk hi101_1
                have HC101_1 := Aside0.mk hl101_1
                clear hi101_1 hl101_1
                replace p101 := eq_true p101
                replace q101 := eq_true q101
                have p102 : 0 ≤ (x3_1 : Int) := of_decide_eq_true (by first | (with_reducible assumption) | assumption)
                have q102 : x3_1 < (l0.length : Int) := of_decide_eq_true (by first | (with_reducible assumption) | assumption)
                obtain ⟨ad102, A102_1, c102_1, e102, hx102_0, hx102_1, hl102_1, hi102_1⟩ := at_T41 HR0.out x3_1 p102 q102
                obtain rfl : ad101 = ad102 := (by injection e102)
                have HR102_1 := Aside0.mk hi102_1
                have HC102_1 := Aside0.mk hl102_1
                clear hi102_1 hl102_1
                replace p102 := eq_true p102
                replace q102 := eq_true q102
                have ea_ := Option.some.inj (hx101_1.symm.trans hx102_1)
                injection ea_ with ea_ en_ ec_
                subst ea_
                subst ec_
                clear en_
                go_wp2
                go_roundg k1
                case measure => have := HK1.out; omega
                case rel => exact ⟨(wrap64 (x3_1 + 1)), (by first | rfl | (simp; done) | (simp [*]; done)), H', ⟨by have := HK1.out; omega⟩, by repeat (first | exact Drawn0.refl _ | apply Drawn0.step)⟩
          · rw [if_neg c4] at H
            exact absurd H (by simp)
        · rw [if_neg c3] at H
          have c3b0 : decide (x3_1 < (l0.length : Int)) = false := decide_eq_false c3
          clear c3
          obtain rfl := Option.some.inj H
          go_wp2
          go_ret
          exact ⟨by first | rfl | (simp; done) | (simp [*]; done), by repeat (first | exact Drawn0.refl _ | apply Drawn0.step)⟩
end Go.Proofs.YtbklhcjcgiblkaaGreatDoor.P
end
section
set_option linter.unusedSimpArgs false
set_option linter.unusedVariables false
namespace Go.Proofs.YtbklhcjcgiblkaaGreatDoor.Ck
open Go.RowKit Go.Lib Go.Shelf Go.Maps Go.Proofs.YtbklhcjcgiblkaaGreatDoorW.PrintWords Go.Proofs.YtbklhcjcgiblkaaGreatDoorW.PrintLast Go.Proofs.YtbklhcjcgiblkaaGreatDoorW.PrintMore Go.Proofs.YtbklhcjcgiblkaaGreatDoor.U Go.Proofs.YtbklhcjcgiblkaaGreatDoor.P Go.Proofs.YtbklhcjcgiblkaaGreatDoor.PTh Go.Proofs.YtbklhcjcgiblkaaGreatDoor.MapV
def toG (f : FileL) : SG := ⟨B f.n, ints f.b⟩
def lightB (fs : List FileL) : Bool := decide (fs.length ≤ 10) && fs.all fun f => decide (f.b.length ≤ 200) && decide (f.n.length ≤ 200)
theorem rd_G (fs : List FileL) (i : Nat) (h : i < fs.length) : rd_T41 (fs.map toG) (i : Int) = toG fs[i] := by
  show (fs.map toG).getD (i : Int).toNat _ = _
  rw [Int.toNat_natCast, List.getD_eq_getElem?_getD, List.getElem?_map, List.getElem?_eq_getElem h]; rfl
theorem light_ev (fs : List FileL) (hf : fs.length ≤ 10) (d : Nat) : ∀ i : Nat, i + d = fs.length → Ev (fun k => bellowslaw15_light.l0 k (fs.map toG) (i : Int)) ((fs.drop i).all fun f => decide (f.b.length ≤ 200) && decide (f.n.length ≤ 200)) := by
  induction d with
  | zero =>
    intro i hi
    refine Ev.unroll ?_
    have h1 : ¬ (i : Int) < ((fs.map toG).length : Int) := by rw [List.length_map]; omega
    rw [List.drop_of_length_le (by omega)]
    simp only [bellowslaw15_light.l0, if_neg h1]
    exact Ev.now _
  | succ d ih =>
    intro i hi
    refine Ev.unroll ?_
    have hlt : i < fs.length := by omega
    have h1 : (i : Int) < ((fs.map toG).length : Int) := by rw [List.length_map]; omega
    have h2 : (0 : Int) ≤ (i : Int) := by omega
    have hw := wrap_succ i (by omega)
    have hr := ih (i + 1) (by omega)
    have e1 : (toG fs[i]).f1.length = fs[i].b.length := ints_len _
    have e2 : (toG fs[i]).f0.size = fs[i].n.length := size_B _
    simp only [bellowslaw15_light.l0, if_pos h1, if_pos h2, rd_G fs i hlt, e1, e2, hw]
    rw [List.drop_eq_getElem_cons hlt, List.all_cons]
    by_cases c1 : fs[i].b.length ≤ 200
    · have n1 : ¬ ((fs[i].b.length : Int) > 200) := by omega
      simp only [if_neg n1]
      by_cases c2 : fs[i].n.length ≤ 200
      · have n2 : ¬ ((fs[i].n.length : Int) > 200) := by omega
        simp only [if_neg n2]
        simpa [c1, c2] using hr
      · have n2 : ((fs[i].n.length : Int) > 200) := by omega
        simp only [if_pos n2]
        simpa [c1, c2] using Ev.now false
    · have n1 : ((fs[i].b.length : Int) > 200) := by omega
      simp only [if_pos n1]
      simpa [c1] using Ev.now false
theorem light_any (A : Option Addr) (c : Nat) (fs : List FileL) (w : World) (hC : Kd.C KG w A (fs.map toG).length (fs.map toG)) (hc : fs.length ≤ c) :
    Calls Tryz.prog 4 #[.slice A fs.length c] w fun e w' => e = .returned (.bool (lightB fs)) ∧ Below w.heap.size w w' := by
  have hE : Ev (fun k => bellowslaw15_light.f k (fs.map toG)) (lightB fs) := by
    unfold bellowslaw15_light.f lightB
    by_cases h : fs.length ≤ 10
    · have n : ¬ (((fs.map toG).length : Int) > 10) := by rw [List.length_map]; omega
      simp only [if_neg n]
      simpa [h] using light_ev fs h fs.length 0 (by omega)
    · have n : (((fs.map toG).length : Int) > 10) := by rw [List.length_map]; omega
      simp only [if_pos n]
      simpa [h] using Ev.now false
  obtain ⟨k, hk⟩ := hE
  have := bellowslaw15_light.calls k A c (fs.map toG) _ w hC (by rw [List.length_map]; exact hc) (hk k (Nat.le_refl _))
  rw [List.length_map] at this
  refine this.mono ?_
  rintro e w' ⟨rfl, hd⟩
  exact ⟨rfl, hd.below⟩
theorem of_ev (fs : List FileL) (hn : fs.length ≤ 10) (hf : ∀ f ∈ fs, f.b.length ≤ 200) (d : Nat) : ∀ i : Nat, i + d = fs.length → Ev (fun k => bellowslaw15_of.l0 k (fs.map toG) ((fs.take i).map toF) (i : Int)) (fs.map toF) := by
  induction d with
  | zero =>
    intro i hi
    refine Ev.unroll ?_
    have h1 : ¬ (i : Int) < ((fs.map toG).length : Int) := by rw [List.length_map]; omega
    rw [List.take_of_length_le (by omega)]
    simp only [bellowslaw15_of.l0, if_neg h1]
    exact Ev.now _
  | succ d ih =>
    intro i hi
    refine Ev.unroll ?_
    have hlt : i < fs.length := by omega
    have h1 : (i : Int) < ((fs.map toG).length : Int) := by rw [List.length_map]; omega
    have h2 : (0 : Int) ≤ (i : Int) := by omega
    have hw := wrap_succ i (by omega)
    have hr := ih (i + 1) (by omega)
    have hx := hf fs[i] (List.getElem_mem hlt)
    have e1 : (toG fs[i]).f1.length = fs[i].b.length := ints_len _
    have n1 : ([] : List Int).length + fs[i].b.length < 140737488355328 := by simp; omega
    have n2 : ((fs.take i).map toF).length < 3518437208883 := by rw [List.length_map, List.length_take]; omega
    simp only [bellowslaw15_of.l0, if_pos h1, if_pos h2, rd_G fs i hlt, e1, hw, Option.bind_some, if_pos n1, if_pos n2]
    rw [List.take_succ_eq_append_getElem hlt, List.map_append] at hr
    exact hr
theorem of_any (A : Option Addr) (c : Nat) (fs : List FileL) (w : World) (hC : Kd.C KG w A (fs.map toG).length (fs.map toG)) (hc : fs.length ≤ c) (hl : lightB fs = true) :
    Calls Tryz.prog 6 #[.slice A fs.length c] w fun e w' => ∃ A2 c2, e = .returned (.slice A2 fs.length c2) ∧ Kd.C KF w' A2 (fs.map toF).length (fs.map toF) ∧ Below w.heap.size w w' := by
  simp only [lightB, Bool.and_eq_true, decide_eq_true_iff, List.all_eq_true] at hl
  obtain ⟨k, hk⟩ : Ev (fun k => bellowslaw15_of.f k (fs.map toG)) (fs.map toF) := by
    unfold bellowslaw15_of.f
    exact of_ev fs hl.1 (fun f hf => (hl.2 f hf).1) fs.length 0 (by omega)
  have := bellowslaw15_of.calls k A c (fs.map toG) _ w hC (by rw [List.length_map]; exact hc) (hk k (Nat.le_refl _))
  rw [List.length_map] at this
  refine this.mono ?_
  rintro e w' ⟨v, rfl, hS, hb⟩
  obtain ⟨A2, c2, rfl, h1, h2⟩ := Kd.S_reads hS
  exact ⟨A2, c2, by rw [List.length_map], h2, hb⟩
theorem gfile_at {w : World} {A : Option Addr} {fs : List FileL} (h : Kd.C KG w A (fs.map toG).length (fs.map toG)) (i : Nat) (hi : i < fs.length) : ∃ ad A1 c1, A = some ad ∧
    w.cell? (ad.add (i * 2)) = some (.string (B fs[i].n)) ∧ w.cell? ⟨(ad.add (i * 2)).block, (ad.add (i * 2)).off + 1, none⟩ = some (.slice A1 fs[i].b.length c1) ∧ fs[i].b.length ≤ c1 ∧ (Kd.int .u8).C w A1 fs[i].b.length (ints fs[i].b) := by
  obtain ⟨ad, A1, c1, rfl, k0, k1, l1, g1⟩ := at_T41 h (i : Int) (by omega) (by rw [List.length_map]; omega)
  rw [Int.toNat_natCast] at k0 k1
  rw [rd_G fs i hi] at k0 k1 l1 g1
  have e1 : (toG fs[i]).f1.length = fs[i].b.length := ints_len _
  rw [e1] at k1 l1 g1
  exact ⟨ad, A1, c1, rfl, k0, k1, l1, g1⟩
end Go.Proofs.YtbklhcjcgiblkaaGreatDoor.Ck
end
