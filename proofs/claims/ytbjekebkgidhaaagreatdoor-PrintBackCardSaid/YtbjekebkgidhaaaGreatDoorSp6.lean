/- Laid together by wip/tools/shake.py from texts of this claim: PBellowslaw12Few0, PBellowslaw12Awake0, PrFewB, RegI, PrOfA, PrOfB, PrOfC, PrOf, MfSame, RowSt, PrBack, PrBackW, CardPrintBack. -/
import Derived.Test.YtbjekebkgidhaaaGreatDoorSp5
import Derived.ChangeSlices
import Derived.ChangeArms
import Derived.ProofKit
import Derived.KernelRfl
import Derived.Test.YtbjekebkgidhaaaGreatDoorProg
import Derived.Test.YtbjekebkgidhaaaGreatDoorRows
import Derived.WalkKit
import Derived.OpenShut
import Derived.ShutString
import Derived.ChangeOld
import Derived.Below
import Derived.SizedLaws
import Derived.Carry
import Derived.LaidMore
import Derived.Lay
import Derived.SevenTiedAt
import Derived.Stop.Joined
import Derived.Test.YtbjekebkgidhaaaGreatDoorTie
import Derived.Test.YtbjekebkgidhaaaGreatDoorCards
section
namespace Go.Proofs.YtbjekebkgidhaaaGreatDoor.P
open Go.RowKit Go.Proofs.YtbjekebkgidhaaaGreatDoorW.PrintWords Go.Proofs.YtbjekebkgidhaaaGreatDoorW.PrintLast Go.Proofs.YtbjekebkgidhaaaGreatDoorW.PrintMore
attribute [local go_sem] max2_int min2_int max_two min_two max_three min_three max_four min_four
set_option linter.unusedVariables false
set_option linter.unusedSimpArgs false
mutual
def bellowslaw12_few.j0 : Nat → Bool → List (S42) → List ByteArray → Option (Bool)
  | 0, _, _, _ => none
  | k + 1, x16, x102000, x102001 => if x16 = true then (some false) else ((some (([] : List ByteArray) : List ByteArray)).bind fun y102 => (if y102.length + x102001.length < 8796093022208 then (bellowslaw12_few.l0 k (y102 ++ x102001) 0 x102000 x102001) else (none)))
def bellowslaw12_few.l0 : Nat → List ByteArray → Int → List (S42) → List ByteArray → Option (Bool)
  | 0, _, _, _, _ => none
  | k + 1, x3, x4, x102000, x102001 => if x4 < (x102000.length : Int) then (if 0 ≤ x4 then (if (((rd_T42 x102000 x4).f0).length : Int) > 10 then (some false) else (if (((rd_T42 x102000 x4).f1).length : Int) > 10 then (some false) else (if (((rd_T42 x102000 x4).f2).length : Int) > 10 then (some false) else (if (((rd_T42 x102000 x4).f3).length : Int) > 10 then (some false) else (if (((rd_T42 x102000 x4).f4).size : Int) > 300 then (some false) else (if (((rd_T42 x102000 x4).f5).size : Int) > 200 then (some false) else (if x3.length + ((rd_T42 x102000 x4).f0).length < 8796093022208 then ((some (x3 ++ ((rd_T42 x102000 x4).f0) : List ByteArray)).bind fun y110 => (if y110.length + ((rd_T42 x102000 x4).f1).length < 8796093022208 then ((some (y110 ++ ((rd_T42 x102000 x4).f1) : List ByteArray)).bind fun y113 => (if y113.length + ((rd_T42 x102000 x4).f2).length < 8796093022208 then ((some (y113 ++ ((rd_T42 x102000 x4).f2) : List ByteArray)).bind fun y116 => (if y116.length + ((rd_T42 x102000 x4).f3).length < 8796093022208 then (bellowslaw12_few.l0 k (y116 ++ ((rd_T42 x102000 x4).f3)) (wrap64 (x4 + 1)) x102000 x102001) else (none))) else (none))) else (none))) else (none)))))))) else (none)) else (bellowslaw12_few.l1 k x3 0)
def bellowslaw12_few.l1 : Nat → List ByteArray → Int → Option (Bool)
  | 0, _, _ => none
  | k + 1, x3, x6 => if x6 < (x3.length : Int) then (if 0 ≤ x6 then (if ((rdOf ByteArray.empty x3 x6).size : Int) > 200 then (some false) else (bellowslaw12_few.l1 k x3 (wrap64 (x6 + 1)))) else (none)) else (some true)
end
def bellowslaw12_few.f (k : Nat) (l0_0 : List (S42)) (l0_1 : List ByteArray) : Option (Bool) := if (l0_0.length : Int) > 30 then (bellowslaw12_few.j0 k true l0_0 l0_1) else (bellowslaw12_few.j0 k (decide ((l0_1.length : Int) > 20)) l0_0 l0_1)
theorem bellowslaw12_few.mono_l : ∀ k, (∀ y0 y1 y2, LeO (bellowslaw12_few.j0 k y0 y1 y2) (bellowslaw12_few.j0 (k + 1) y0 y1 y2)) ∧ (∀ y0 y1 y2 y3, LeO (bellowslaw12_few.l0 k y0 y1 y2 y3) (bellowslaw12_few.l0 (k + 1) y0 y1 y2 y3)) ∧ (∀ y0 y1, LeO (bellowslaw12_few.l1 k y0 y1) (bellowslaw12_few.l1 (k + 1) y0 y1))
  | 0 => ⟨fun _ _ _ r h => by simp [bellowslaw12_few.j0] at h, fun _ _ _ _ r h => by simp [bellowslaw12_few.l0] at h, fun _ _ r h => by simp [bellowslaw12_few.l1] at h⟩
  | k + 1 => by
    obtain ⟨ih0, ih1, ih2⟩ := bellowslaw12_few.mono_l k
    refine ⟨?_, ?_, ?_⟩
    · intro y0 y1 y2
      unfold bellowslaw12_few.j0
      repeat' first
      | (with_reducible exact ih0 _ _ _)
      | (with_reducible exact ih1 _ _ _ _)
      | (with_reducible exact ih2 _ _)
      | (with_reducible exact LeO.refl _)
      | (with_reducible exact LeO.none _)
      | (with_reducible refine LeO.ite ?_ ?_)
      | (with_reducible refine LeO.bind ?_ (fun _ => ?_))
      | exact ih0 _ _ _
      | exact ih1 _ _ _ _
      | exact ih2 _ _
      | exact LeO.none _
      | refine LeO.ite ?_ ?_
      | refine LeO.bind ?_ (fun _ => ?_)
    · intro y0 y1 y2 y3
      unfold bellowslaw12_few.l0
      repeat' first
      | (with_reducible exact ih0 _ _ _)
      | (with_reducible exact ih1 _ _ _ _)
      | (with_reducible exact ih2 _ _)
      | (with_reducible exact LeO.refl _)
      | (with_reducible exact LeO.none _)
      | (with_reducible refine LeO.ite ?_ ?_)
      | (with_reducible refine LeO.bind ?_ (fun _ => ?_))
      | exact ih0 _ _ _
      | exact ih1 _ _ _ _
      | exact ih2 _ _
      | exact LeO.none _
      | refine LeO.ite ?_ ?_
      | refine LeO.bind ?_ (fun _ => ?_)
    · intro y0 y1
      unfold bellowslaw12_few.l1
      repeat' first
      | (with_reducible exact ih0 _ _ _)
      | (with_reducible exact ih1 _ _ _ _)
      | (with_reducible exact ih2 _ _)
      | (with_reducible exact LeO.refl _)
      | (with_reducible exact LeO.none _)
      | (with_reducible refine LeO.ite ?_ ?_)
      | (with_reducible refine LeO.bind ?_ (fun _ => ?_))
      | exact ih0 _ _ _
      | exact ih1 _ _ _ _
      | exact ih2 _ _
      | exact LeO.none _
      | refine LeO.ite ?_ ?_
      | refine LeO.bind ?_ (fun _ => ?_)
theorem bellowslaw12_few.mono : ∀ a0 a1 k, LeO (bellowslaw12_few.f k a0 a1) (bellowslaw12_few.f (k + 1) a0 a1) := by
  intro a0 a1 k
  obtain ⟨ih0, ih1, ih2⟩ := bellowslaw12_few.mono_l k
  unfold bellowslaw12_few.f
  repeat' first
      | (with_reducible exact ih0 _ _ _)
      | (with_reducible exact ih1 _ _ _ _)
      | (with_reducible exact ih2 _ _)
      | (with_reducible exact LeO.refl _)
      | (with_reducible exact LeO.none _)
      | (with_reducible refine LeO.ite ?_ ?_)
      | (with_reducible refine LeO.bind ?_ (fun _ => ?_))
      | exact ih0 _ _ _
      | exact ih1 _ _ _ _
      | exact ih2 _ _
      | exact LeO.none _
      | refine LeO.ite ?_ ?_
      | refine LeO.bind ?_ (fun _ => ?_)
def bellowslaw12_few.T10 : Bool × List (List Nat × List Nat) := (true, [([], []), ([], []), ([1], [1]), ([0, 2], [0, 2]), ([], []), ([4], [4]), ([3, 5, 3], [3, 5]), ([], []), ([7], [7]), ([6, 8, 6], [6, 8]), ([], []), ([10], [10]), ([9, 11, 9], [9, 11]), ([12, 12, 0, 1, 2, 3, 4, 5, 6, 7, 8, 9, 10, 11, 12], [0, 12])])
def bellowslaw12_few.B10 : List Nat := [0, 0, 2, 7, 0, 16, 63, 0, 128, 511, 0, 1024, 4095, 8191]
theorem bellowslaw12_few.tab10 : rtab .any (opsOf Tryz.f5 10) = bellowslaw12_few.T10 := by kernel_rfl
theorem bellowslaw12_few.bits10 : waitsOk bellowslaw12_few.T10.2 bellowslaw12_few.B10 = true := by kernel_rfl
set_option maxHeartbeats 8000000 in
set_option maxRecDepth 100000 in
theorem bellowslaw12_few.calls (k : Nat) (A0_0 : Option Addr) (c0_0 : Nat) (l0_0 : List (S42)) (A0_1 : Option Addr) (c0_1 : Nat) (l0_1 : List ByteArray) (r : Bool) (w : World) (hr0_0 : Kd.C k42 w A0_0 l0_0.length l0_0) (hc0_0 : l0_0.length ≤ c0_0) (hr0_1 : Kd.C Kd.string w A0_1 l0_1.length l0_1) (hc0_1 : l0_1.length ≤ c0_1) (h : bellowslaw12_few.f k l0_0 l0_1 = some r) :
    Calls Tryz.prog 5 #[.agg #[.slice A0_0 l0_0.length c0_0, .slice A0_1 l0_1.length c0_1]] w fun e w' => e = .returned (.bool r) ∧ Below w.heap.size w w' := by
  have hu25 := Tryz.underlying25
  have hu42 := Tryz.underlying42
  have HR0_0 := Aside0.mk hr0_0
  have HC0_0 := Aside0.mk hc0_0
  clear hr0_0 hc0_0
  have HR0_1 := Aside0.mk hr0_1
  have HC0_1 := Aside0.mk hc0_1
  clear hr0_1 hc0_1
  have HB := Aside0.mk (Below.refl w.heap.size w)
  have H : (if (l0_0.length : Int) > 30 then (bellowslaw12_few.j0 k true l0_0 l0_1) else (bellowslaw12_few.j0 k (decide ((l0_1.length : Int) > 20)) l0_0 l0_1)) = some r := h
  clear h
  have HC2 := Aside0.mk H
  clear H
  go_enter Tryz.func5, Tryz.ntmps5
  go_upto_region 1 with (first | ((with_reducible refine gate_dst (N := 1) rfl ?_); (try (refine gate_guard (by rfl) ?_; dsimp only)); refine box_event ?hg (N := 1) ?hd (cs := #[.slice A0_0 l0_0.length c0_0, .slice A0_1 l0_1.length c0_1]) (t := 25) ?hr ?_; (case hd => rfl); (case hg => rfl); (case hr => first | (go_simp; done) | (go_simp; rfl)); intro gb101 hg w3 hbox hb; have n0_ := Aside0.mk (below_step (by repeat (first | (with_reducible first | exact HB.out | apply below_alloc | apply pw_below_drewN | apply below_drew1) | exact HB.out)) hb); have n1_ := Aside0.mk (hbox); have n2_ := Aside0.mk ((by rw [hg]; exact (below_size (by repeat (first | (with_reducible first | exact HB.out | apply below_alloc | apply pw_below_drewN | apply below_drew1) | exact HB.out))) : w.heap.size ≤ gb101)); have n3_ := Aside0.mk ((by rw [hg]; exact (below_size (by repeat (first | (with_reducible first | exact HB.out | apply below_alloc | apply pw_below_drewN | apply below_drew1) | exact HB.out))) : w.heap.size ≤ gb101)); clear HB; have HB := n0_; have BK101 := n1_; have GW101 := n2_; have GE101 := n3_; clear n0_ n1_ n2_ n3_; clear hb hbox hg))
  (try simp only [Act.put, pA,pB,pC])
  go_cut [16] (fun v16 wc => ∃ (kq : Nat) (x16_1 : Bool), v16 = .bool x16_1 ∧ Aside0 (bellowslaw12_few.j0 kq x16_1 l0_0 l0_1 = some r) ∧ Aside0 (kq ≤ k) ∧ Aside0 (wc.heap[gb101]? = some (.cells #[(.slice A0_0 l0_0.length c0_0), (.slice A0_1 l0_1.length c0_1)] 25 (0, 0))) ∧ Aside0 (Below w.heap.size w wc))
  case first =>
    have H := HC2.out
    clear HC2
    by_cases c4 : (l0_0.length : Int) > 30
    · rw [if_pos c4] at H
      have c4b0 : decide (30 < (l0_0.length : Int)) = true := decide_eq_true c4
      have c4b1 : decide (30 < l0_0.length) = true := decide_eq_true (by omega)
      clear c4
      (first | rw [c4b0] | (simp only [i64_w, i32_w]; rw [c4b0]) | skip)
      have H' := Aside0.mk H
      clear H
      have hcz5_0 : w3.cell? ⟨gb101, 0, none⟩ = some (.slice A0_0 l0_0.length c0_0) := (blk_cell BK101.out 0).trans rfl
      have hcz5_1 : w3.cell? ⟨gb101, 1, none⟩ = some (.slice A0_1 l0_1.length c0_1) := (blk_cell BK101.out 1).trans rfl
      have hfz5_0 := blk_frozen BK101.out 0
      have hfz5_1 := blk_frozen BK101.out 1
      go_wp2
      go_meet
      case rel => exact ⟨_, (true), (by first | rfl | (simp; done) | (simp [*]; done)), H', ⟨by first | omega | exact Nat.le_refl _⟩, ⟨by (with_reducible repeat (first | refine blk_drewN ?_ _ | refine blk_drew ?_ | refine blk_alloc ?_ _)); exact BK101.out⟩, ⟨by repeat (first | (with_reducible first | exact HB.out | apply below_alloc | apply pw_below_drewN | apply below_drew1 | refine below_set ?_ GE101.out) | exact HB.out)⟩⟩
    · rw [if_neg c4] at H
      have c4b0 : decide (30 < (l0_0.length : Int)) = false := decide_eq_false c4
      have c4b1 : decide (30 < l0_0.length) = false := decide_eq_false (by omega)
      clear c4
      (first | rw [c4b0] | (simp only [i64_w, i32_w]; rw [c4b0]) | skip)
      have H' := Aside0.mk H
      clear H
      have hcz6_0 : w3.cell? ⟨gb101, 0, none⟩ = some (.slice A0_0 l0_0.length c0_0) := (blk_cell BK101.out 0).trans rfl
      have hcz6_1 : w3.cell? ⟨gb101, 1, none⟩ = some (.slice A0_1 l0_1.length c0_1) := (blk_cell BK101.out 1).trans rfl
      have hfz6_0 := blk_frozen BK101.out 0
      have hfz6_1 := blk_frozen BK101.out 1
      go_wp2
      go_meet
      case rel => exact ⟨_, (decide ((l0_1.length : Int) > 20)), (by first | rfl | (simp; done) | (simp [*]; done)), H', ⟨by first | omega | exact Nat.le_refl _⟩, ⟨by (with_reducible repeat (first | refine blk_drewN ?_ _ | refine blk_drew ?_ | refine blk_alloc ?_ _)); exact BK101.out⟩, ⟨by repeat (first | (with_reducible first | exact HB.out | apply below_alloc | apply pw_below_drewN | apply below_drew1 | refine below_set ?_ GE101.out) | exact HB.out)⟩⟩
  case rest =>
    clear HC2
    try clear p2
    try clear c4
    try clear c4b0
    try clear c4b1
    try clear c5
    try clear hcz5_0
    try clear hcz5_1
    try clear hcz6_0
    try clear hcz6_1
    try clear hfz5_0
    try clear hfz5_1
    try clear hfz6_0
    try clear hfz6_1
    obtain ⟨kq, x16_1, rfl, HA, HJ1, BK101, HB⟩ := hcut
    cases kq with
    | zero => exact absurd HA.out (by simp [bellowslaw12_few.j0])
    | succ kj1 =>
      have H := HA.out
      clear HA
      simp only [bellowslaw12_few.j0] at H
      by_cases c7 : x16_1 = true
      · subst c7
        have H1 : (some false) = some r := by rw [if_pos rfl] at H; exact H
        clear H
        have H := H1
        clear H1
        obtain rfl := Option.some.inj H
        go_wp2
        go_ret
        exact ⟨by first | rfl | (simp [errW_none, errW_some] <;> rfl) | (simp [*, errW_none, errW_some] <;> rfl), by repeat (first | (with_reducible first | exact HB.out | apply below_alloc | apply pw_below_drewN | apply below_drew1 | refine below_set ?_ GE101.out) | exact HB.out)⟩
      · replace c7 := Bool.eq_false_iff.mpr c7
        subst c7
        have H1 : ((some (([] : List ByteArray) : List ByteArray)).bind fun y102 => (if y102.length + l0_1.length < 8796093022208 then (bellowslaw12_few.l0 kj1 (y102 ++ l0_1) 0 l0_0 l0_1) else (none))) = some r := by rw [if_neg (show ¬ (false = true) by decide)] at H; exact H
        clear H
        have H := H1
        clear H1
        obtain ⟨y102, hy102⟩ : ∃ y_ : List ByteArray, y_ = (([] : List ByteArray)) := ⟨_, rfl⟩
        replace H : (if y102.length + l0_1.length < 8796093022208 then (bellowslaw12_few.l0 kj1 (y102 ++ l0_1) 0 l0_0 l0_1) else (none)) = some r := by first | (rw [hy102]; with_reducible exact H) | (have H2_ := (Option.bind_some _ _).symm.trans H; rw [hy102]; with_reducible exact H2_) | (have H2_ := (Option.bind_some _ _).symm.trans H; with_reducible exact H2_) | with_reducible exact H | (rw [hy102]; exact H) | exact H
        have Ny102 := Aside0.mk hy102
        clear hy102
        by_cases c8 : y102.length + l0_1.length < 8796093022208
        · rw [if_pos c8] at H
          have LMc8 := Aside0.mk c8
          clear c8
          obtain ⟨y105, hy105⟩ : ∃ y_ : List ByteArray, y_ = (y102 ++ l0_1) := ⟨_, rfl⟩
          replace H : (bellowslaw12_few.l0 kj1 y105 0 l0_0 l0_1) = some r := by first | (rw [hy105]; with_reducible exact H) | (have H2_ := (Option.bind_some _ _).symm.trans H; rw [hy105]; with_reducible exact H2_) | (have H2_ := (Option.bind_some _ _).symm.trans H; with_reducible exact H2_) | with_reducible exact H | (rw [hy105]; exact H) | exact H
          have Ny105 := Aside0.mk hy105
          clear hy105
          have H' := Aside0.mk H
          clear H
          go_wp2_with (first | ((with_reducible refine gate_dst (N := 17) rfl ?_); (try (refine gate_guard (by rfl) ?_; dsimp only)); refine Kd.R_lit Kd.string _ 9 ?hg (N := 17) ?hd (xs := ([] : List ByteArray)) (inner := []) (ok := fun _ => True) (okp := fun _ => True) ?hr ?hp (fun _ hk => hk) trivial (Below.refl _ _) (Nat.le_refl _) (by simp) ?_; (case hd => rfl); (case hg => rfl); (case hr => first | (go_simp; done) | (go_simp; rfl)); (case hp => exact (Reps.none _ _)); intro v103 w9 ho10 hb hg_ hnew_; clear hg_ hnew_; (first | rw [← Ny102.out] at ho10 | (simp only [Int.reduceToNat] at ho10; rw [← Ny102.out] at ho10)); have n0_ := Aside0.mk (Kd.R_lower ho10 (below_size (by repeat (first | (with_reducible first | exact HB.out | apply below_alloc | apply pw_below_drewN | apply below_drew1 | refine below_set ?_ GE101.out) | exact HB.out)))); have n1_ := Aside0.mk (blk_below (g := gb101) (o := .cells #[.slice A0_0 l0_0.length c0_0, .slice A0_1 l0_1.length c0_1] 25 (0, 0)) (by (with_reducible repeat (first | refine blk_drewN ?_ _ | refine blk_drew ?_ | refine blk_alloc ?_ _)); exact BK101.out) hb); have n2_ := Aside0.mk (below_step (by repeat (first | (with_reducible first | exact HB.out | apply below_alloc | apply pw_below_drewN | apply below_drew1 | refine below_set ?_ GE101.out) | exact HB.out)) hb); clear BK101; clear HB; have HO104 := n0_; have BK101 := n1_; have HB := n2_; clear n0_ n1_ n2_; clear hb ho10; have hcz11_0 : w9.cell? ⟨gb101, 0, none⟩ = some (.slice A0_0 l0_0.length c0_0) := (blk_cell BK101.out 0).trans rfl; have hcz11_1 : w9.cell? ⟨gb101, 1, none⟩ = some (.slice A0_1 l0_1.length c0_1) := (blk_cell BK101.out 1).trans rfl; have hfz11_0 := blk_frozen BK101.out 0; have hfz11_1 := blk_frozen BK101.out 1) | ((with_reducible refine gate_builtin (b := .append) (xs := #[.tmp 17, .tmp 19]) rfl ?_); (try (refine gate_guard (by rfl) ?_; dsimp only)); at_builtin; refine Kd.R_append_rows Kd.string (w0 := w) w.heap.size rfl (.tmp 17) (.tmp 19) 23 9 (.string ⟨#[]⟩) 16 rfl Tryz.underlying23 info9 rfl (by decide) (by omega) v103 y102 l0_1 _ _ _ (fun _ => True) (fun _ => False) rfl rfl ?aO ?aR (fun _ _ h => h) (fun _ h => h.elim) ?aF ?aB ?aS ?aL ?_; (case aR => repeat (first | exact (Kd.C_below HR0_1.out HB.out) | (with_reducible refine Kd.C_alloc ?_ _) | (with_reducible refine Kd.C_drewN ?_ _) | (with_reducible refine Kd.C_drew ?_))); (case aB => exact (by repeat (first | (with_reducible first | exact HB.out | apply below_alloc | apply pw_below_drewN | apply below_drew1 | refine below_set ?_ GE101.out) | exact HB.out))); (case aF => exact (fun _ _ => trivial)); (case aO => exact (by (with_reducible repeat (first | apply Kd.R_alloc | apply Kd.R_drewN | apply Kd.R_drew)); exact HO104.out)); (case aS => exact (below_size (by repeat (first | (with_reducible first | exact HB.out | apply below_alloc | apply pw_below_drewN | apply below_drew1 | refine below_set ?_ GE101.out) | exact HB.out)))); (case aL => have := LMc8.out; omega); intro v106 w12 ho hb hg hat; rw [← Ny105.out] at ho; have n0_ := Aside0.mk (blk_grown (g := gb101) (o := .cells #[.slice A0_0 l0_0.length c0_0, .slice A0_1 l0_1.length c0_1] 25 (0, 0)) (by (with_reducible repeat (first | refine blk_drewN ?_ _ | refine blk_drew ?_ | refine blk_alloc ?_ _)); exact BK101.out) hg (Kd.R_ne HO104.out BK101.out (by decide))); have n1_ := Aside0.mk (hb); have n2_ := Aside0.mk (ho); clear BK101; clear HB; clear HO104; have BK101 := n0_; have HB := n1_; have HO107 := n2_; clear n0_ n1_ n2_; clear ho hb hg hat))
          go_loopg [3, 4] kj1 (fun kq v3 v4 w' => ∃ (x3_2 : List ByteArray) (x4_2 : Int), v4 = .int .i64 x4_2 ∧ Aside0 (bellowslaw12_few.l0 kq x3_2 x4_2 l0_0 l0_1 = some r) ∧ Aside0 (kq ≤ kj1) ∧ Aside0 (Kd.R Kd.string 9 w' w.heap.size (fun _ => True) v3 x3_2) ∧ Aside0 (w'.heap[gb101]? = some (.cells #[(.slice A0_0 l0_0.length c0_0), (.slice A0_1 l0_1.length c0_1)] 25 (0, 0))) ∧ Aside0 (Below w.heap.size w w'))
          case atStart => exact ⟨(y105), (0), (by first | rfl | (simp; done) | (simp [*]; done)), H', ⟨Nat.le_refl _⟩, ⟨by (with_reducible repeat (first | apply Kd.R_alloc | apply Kd.R_drewN | apply Kd.R_drew)); exact HO107.out⟩, ⟨by (with_reducible repeat (first | refine blk_drewN ?_ _ | refine blk_drew ?_ | refine blk_alloc ?_ _)); exact BK101.out⟩, ⟨by repeat (first | (with_reducible first | exact HB.out | apply below_alloc | apply pw_below_drewN | apply below_drew1 | refine below_set ?_ GE101.out) | exact HB.out)⟩⟩
          case round =>
            clear H'
            try clear p2
            try clear c4
            try clear c4b0
            try clear c4b1
            try clear c5
            try clear c7
            try clear c8
            try clear hcz11_0
            try clear hcz11_1
            try clear hcz5_0
            try clear hcz5_1
            try clear hcz6_0
            try clear hcz6_1
            try clear hfz11_0
            try clear hfz11_1
            try clear hfz5_0
            try clear hfz5_1
            try clear hfz6_0
            try clear hfz6_1
            try clear p2
            obtain ⟨x3_2, x4_2, rfl, HA, HK2, HO_3, BK101, HB⟩ := hrel
            cases gk with
            | zero => exact absurd HA.out (by simp [bellowslaw12_few.l0])
            | succ k2 =>
              have H := HA.out
              clear HA
              simp only [bellowslaw12_few.l0] at H
              by_cases c13 : x4_2 < (l0_0.length : Int)
              · rw [if_pos c13] at H
                have c13b0 : decide (x4_2 < (l0_0.length : Int)) = true := decide_eq_true c13
                clear c13
                by_cases c14 : 0 ≤ x4_2
                · rw [if_pos c14] at H
                  have c14b0 : decide (0 ≤ x4_2) = true := decide_eq_true c14
                  clear c14
                  by_cases c15 : (((rd_T42 l0_0 x4_2).f0).length : Int) > 10
                  · rw [if_pos c15] at H
                    have c15b0 : decide (10 < (((rd_T42 l0_0 x4_2).f0).length : Int)) = true := decide_eq_true c15
                    have c15b1 : decide (10 < ((rd_T42 l0_0 x4_2).f0).length) = true := decide_eq_true (by omega)
                    clear c15
                    obtain rfl := Option.some.inj H
                    have hcz16_0 : wr.cell? ⟨gb101, 0, none⟩ = some (.slice A0_0 l0_0.length c0_0) := (blk_cell BK101.out 0).trans rfl
                    have hcz16_1 : wr.cell? ⟨gb101, 1, none⟩ = some (.slice A0_1 l0_1.length c0_1) := (blk_cell BK101.out 1).trans rfl
                    have hfz16_0 := blk_frozen BK101.out 0
                    have hfz16_1 := blk_frozen BK101.out 1
                    have p108 : 0 ≤ (x4_2 : Int) := of_decide_eq_true (by first | (with_reducible assumption) | assumption)
                    have q108 : x4_2 < (l0_0.length : Int) := of_decide_eq_true (by first | (with_reducible assumption) | assumption)
                    obtain ⟨ad108, A108_0, c108_0, A108_1, c108_1, A108_2, c108_2, A108_3, c108_3, e108, hx108_0, hx108_1, hx108_2, hx108_3, hx108_4, hx108_5, hl108_0, hi108_0, hl108_1, hi108_1, hl108_2, hi108_2, hl108_3, hi108_3⟩ := at_T42 HR0_0.out x4_2 p108 q108
                    cases e108
                    replace hx108_0 := (HB.out.cell (World.block_lt_of_cell? w _ hx108_0)).trans hx108_0
                    replace hx108_1 := (HB.out.cell (World.block_lt_of_cell? w _ hx108_1)).trans hx108_1
                    replace hx108_2 := (HB.out.cell (World.block_lt_of_cell? w _ hx108_2)).trans hx108_2
                    replace hx108_3 := (HB.out.cell (World.block_lt_of_cell? w _ hx108_3)).trans hx108_3
                    replace hx108_4 := (HB.out.cell (World.block_lt_of_cell? w _ hx108_4)).trans hx108_4
                    replace hx108_5 := (HB.out.cell (World.block_lt_of_cell? w _ hx108_5)).trans hx108_5
                    have HR108_0 := Aside0.mk hi108_0
                    have HC108_0 := Aside0.mk hl108_0
                    clear hi108_0 hl108_0
                    have HR108_1 := Aside0.mk hi108_1
                    have HC108_1 := Aside0.mk hl108_1
                    clear hi108_1 hl108_1
                    have HR108_2 := Aside0.mk hi108_2
                    have HC108_2 := Aside0.mk hl108_2
                    clear hi108_2 hl108_2
                    have HR108_3 := Aside0.mk hi108_3
                    have HC108_3 := Aside0.mk hl108_3
                    clear hi108_3 hl108_3
                    replace p108 := eq_true p108
                    replace q108 := eq_true q108
                    go_wp2_with (first | ((with_reducible refine gate_dst (N := 5) rfl ?_); (try (refine gate_guard (by rfl) ?_; dsimp only)); refine box_event ?hg (N := 5) ?hd (cs := #[.slice none 0 0, .slice none 0 0, .slice none 0 0, .slice none 0 0, .string (⟨#[]⟩ : ByteArray), .string (⟨#[]⟩ : ByteArray)]) (t := 42) ?hr ?_; (case hd => rfl); (case hg => rfl); (case hr => first | (go_simp; done) | (go_simp; rfl)); intro gb109 hg w17 hbox hb; have n0_ := Aside0.mk (Kd.R_below (by (with_reducible repeat (first | apply Kd.R_alloc | apply Kd.R_drewN | apply Kd.R_drew)); exact HO_3.out) hb); have n1_ := Aside0.mk (blk_below (g := gb101) (o := .cells #[.slice (some ad108) l0_0.length c0_0, .slice A0_1 l0_1.length c0_1] 25 (0, 0)) (by (with_reducible repeat (first | refine blk_drewN ?_ _ | refine blk_drew ?_ | refine blk_alloc ?_ _)); exact BK101.out) hb); have n2_ := Aside0.mk (below_step (by repeat (first | (with_reducible first | exact HB.out | apply below_alloc | apply pw_below_drewN | apply below_drew1 | refine below_set ?_ GE101.out) | exact HB.out)) hb); have n3_ := Aside0.mk (hbox); have n4_ := Aside0.mk ((by rw [hg]; exact (below_size (by repeat (first | (with_reducible first | exact HB.out | apply below_alloc | apply pw_below_drewN | apply below_drew1 | refine below_set ?_ GE101.out) | exact HB.out))) : w.heap.size ≤ gb109)); have n5_ := Aside0.mk ((by rw [hg]; exact (below_size (by repeat (first | (with_reducible first | exact HB.out | apply below_alloc | apply pw_below_drewN | apply below_drew1 | refine below_set ?_ GE101.out) | exact HB.out))) : w.heap.size ≤ gb109)); have n6_ := Aside0.mk ((by rw [hg]; exact Nat.ne_of_lt (blk_lt (g := gb101) (o := .cells #[.slice (some ad108) l0_0.length c0_0, .slice A0_1 l0_1.length c0_1] 25 (0, 0)) (by (with_reducible repeat (first | refine blk_drewN ?_ _ | refine blk_drew ?_ | refine blk_alloc ?_ _)); exact BK101.out)) : gb101 ≠ gb109)); have n7_ := Aside0.mk ((by rw [hg]; exact Nat.ne_of_gt (blk_lt (g := gb101) (o := .cells #[.slice (some ad108) l0_0.length c0_0, .slice A0_1 l0_1.length c0_1] 25 (0, 0)) (by (with_reducible repeat (first | refine blk_drewN ?_ _ | refine blk_drew ?_ | refine blk_alloc ?_ _)); exact BK101.out)) : gb109 ≠ gb101)); clear HO_3; clear BK101; clear HB; have HO_3 := n0_; have BK101 := n1_; have HB := n2_; have BK109 := n3_; have GW109 := n4_; have GE109 := n5_; have NB101_109 := n6_; have NB109_101 := n7_; clear n0_ n1_ n2_ n3_ n4_ n5_ n6_ n7_; clear hb hbox hg; have hnb18 := NB109_101.out; have hnc18 := NB101_109.out; have hcz19_0 : w17.cell? ⟨gb109, 0, none⟩ = some (.slice none 0 0) := (blk_cell BK109.out 0).trans rfl; have hcz19_1 : w17.cell? ⟨gb109, 1, none⟩ = some (.slice none 0 0) := (blk_cell BK109.out 1).trans rfl; have hcz19_2 : w17.cell? ⟨gb109, 2, none⟩ = some (.slice none 0 0) := (blk_cell BK109.out 2).trans rfl; have hcz19_3 : w17.cell? ⟨gb109, 3, none⟩ = some (.slice none 0 0) := (blk_cell BK109.out 3).trans rfl; have hcz19_4 : w17.cell? ⟨gb109, 4, none⟩ = some (.string (⟨#[]⟩ : ByteArray)) := (blk_cell BK109.out 4).trans rfl; have hcz19_5 : w17.cell? ⟨gb109, 5, none⟩ = some (.string (⟨#[]⟩ : ByteArray)) := (blk_cell BK109.out 5).trans rfl; have hfz19_0 := blk_frozen BK109.out 0; have hfz19_1 := blk_frozen BK109.out 1; have hfz19_2 := blk_frozen BK109.out 2; have hfz19_3 := blk_frozen BK109.out 3; have hfz19_4 := blk_frozen BK109.out 4; have hfz19_5 := blk_frozen BK109.out 5))
                    go_ret
                    exact ⟨by first | rfl | (simp [errW_none, errW_some] <;> rfl) | (simp [*, errW_none, errW_some] <;> rfl), by repeat (first | (with_reducible first | exact HB.out | apply below_alloc | apply pw_below_drewN | apply below_drew1 | refine below_set ?_ GE101.out | refine below_set ?_ GE109.out) | exact HB.out)⟩
                  · rw [if_neg c15] at H
                    have c15b0 : decide (10 < (((rd_T42 l0_0 x4_2).f0).length : Int)) = false := decide_eq_false c15
                    have c15b1 : decide (10 < ((rd_T42 l0_0 x4_2).f0).length) = false := decide_eq_false (by omega)
                    clear c15
                    by_cases c20 : (((rd_T42 l0_0 x4_2).f1).length : Int) > 10
                    · rw [if_pos c20] at H
                      have c20b0 : decide (10 < (((rd_T42 l0_0 x4_2).f1).length : Int)) = true := decide_eq_true c20
                      have c20b1 : decide (10 < ((rd_T42 l0_0 x4_2).f1).length) = true := decide_eq_true (by omega)
                      clear c20
                      obtain rfl := Option.some.inj H
                      have hcz21_0 : wr.cell? ⟨gb101, 0, none⟩ = some (.slice A0_0 l0_0.length c0_0) := (blk_cell BK101.out 0).trans rfl
                      have hcz21_1 : wr.cell? ⟨gb101, 1, none⟩ = some (.slice A0_1 l0_1.length c0_1) := (blk_cell BK101.out 1).trans rfl
                      have hfz21_0 := blk_frozen BK101.out 0
                      have hfz21_1 := blk_frozen BK101.out 1
                      have p108 : 0 ≤ (x4_2 : Int) := of_decide_eq_true (by first | (with_reducible assumption) | assumption)
                      have q108 : x4_2 < (l0_0.length : Int) := of_decide_eq_true (by first | (with_reducible assumption) | assumption)
                      obtain ⟨ad108, A108_0, c108_0, A108_1, c108_1, A108_2, c108_2, A108_3, c108_3, e108, hx108_0, hx108_1, hx108_2, hx108_3, hx108_4, hx108_5, hl108_0, hi108_0, hl108_1, hi108_1, hl108_2, hi108_2, hl108_3, hi108_3⟩ := at_T42 HR0_0.out x4_2 p108 q108
                      cases e108
                      replace hx108_0 := (HB.out.cell (World.block_lt_of_cell? w _ hx108_0)).trans hx108_0
                      replace hx108_1 := (HB.out.cell (World.block_lt_of_cell? w _ hx108_1)).trans hx108_1
                      replace hx108_2 := (HB.out.cell (World.block_lt_of_cell? w _ hx108_2)).trans hx108_2
                      replace hx108_3 := (HB.out.cell (World.block_lt_of_cell? w _ hx108_3)).trans hx108_3
                      replace hx108_4 := (HB.out.cell (World.block_lt_of_cell? w _ hx108_4)).trans hx108_4
                      replace hx108_5 := (HB.out.cell (World.block_lt_of_cell? w _ hx108_5)).trans hx108_5
                      have HR108_0 := Aside0.mk hi108_0
                      have HC108_0 := Aside0.mk hl108_0
                      clear hi108_0 hl108_0
                      have HR108_1 := Aside0.mk hi108_1
                      have HC108_1 := Aside0.mk hl108_1
                      clear hi108_1 hl108_1
                      have HR108_2 := Aside0.mk hi108_2
                      have HC108_2 := Aside0.mk hl108_2
                      clear hi108_2 hl108_2
                      have HR108_3 := Aside0.mk hi108_3
                      have HC108_3 := Aside0.mk hl108_3
                      clear hi108_3 hl108_3
                      replace p108 := eq_true p108
                      replace q108 := eq_true q108
                      go_wp2_with (first | ((with_reducible refine gate_dst (N := 5) rfl ?_); (try (refine gate_guard (by rfl) ?_; dsimp only)); refine box_event ?hg (N := 5) ?hd (cs := #[.slice none 0 0, .slice none 0 0, .slice none 0 0, .slice none 0 0, .string (⟨#[]⟩ : ByteArray), .string (⟨#[]⟩ : ByteArray)]) (t := 42) ?hr ?_; (case hd => rfl); (case hg => rfl); (case hr => first | (go_simp; done) | (go_simp; rfl)); intro gb109 hg w22 hbox hb; have n0_ := Aside0.mk (Kd.R_below (by (with_reducible repeat (first | apply Kd.R_alloc | apply Kd.R_drewN | apply Kd.R_drew)); exact HO_3.out) hb); have n1_ := Aside0.mk (blk_below (g := gb101) (o := .cells #[.slice (some ad108) l0_0.length c0_0, .slice A0_1 l0_1.length c0_1] 25 (0, 0)) (by (with_reducible repeat (first | refine blk_drewN ?_ _ | refine blk_drew ?_ | refine blk_alloc ?_ _)); exact BK101.out) hb); have n2_ := Aside0.mk (below_step (by repeat (first | (with_reducible first | exact HB.out | apply below_alloc | apply pw_below_drewN | apply below_drew1 | refine below_set ?_ GE101.out) | exact HB.out)) hb); have n3_ := Aside0.mk (hbox); have n4_ := Aside0.mk ((by rw [hg]; exact (below_size (by repeat (first | (with_reducible first | exact HB.out | apply below_alloc | apply pw_below_drewN | apply below_drew1 | refine below_set ?_ GE101.out) | exact HB.out))) : w.heap.size ≤ gb109)); have n5_ := Aside0.mk ((by rw [hg]; exact (below_size (by repeat (first | (with_reducible first | exact HB.out | apply below_alloc | apply pw_below_drewN | apply below_drew1 | refine below_set ?_ GE101.out) | exact HB.out))) : w.heap.size ≤ gb109)); have n6_ := Aside0.mk ((by rw [hg]; exact Nat.ne_of_lt (blk_lt (g := gb101) (o := .cells #[.slice (some ad108) l0_0.length c0_0, .slice A0_1 l0_1.length c0_1] 25 (0, 0)) (by (with_reducible repeat (first | refine blk_drewN ?_ _ | refine blk_drew ?_ | refine blk_alloc ?_ _)); exact BK101.out)) : gb101 ≠ gb109)); have n7_ := Aside0.mk ((by rw [hg]; exact Nat.ne_of_gt (blk_lt (g := gb101) (o := .cells #[.slice (some ad108) l0_0.length c0_0, .slice A0_1 l0_1.length c0_1] 25 (0, 0)) (by (with_reducible repeat (first | refine blk_drewN ?_ _ | refine blk_drew ?_ | refine blk_alloc ?_ _)); exact BK101.out)) : gb109 ≠ gb101)); clear HO_3; clear BK101; clear HB; have HO_3 := n0_; have BK101 := n1_; have HB := n2_; have BK109 := n3_; have GW109 := n4_; have GE109 := n5_; have NB101_109 := n6_; have NB109_101 := n7_; clear n0_ n1_ n2_ n3_ n4_ n5_ n6_ n7_; clear hb hbox hg; have hnb23 := NB109_101.out; have hnc23 := NB101_109.out; have hcz24_0 : w22.cell? ⟨gb109, 0, none⟩ = some (.slice none 0 0) := (blk_cell BK109.out 0).trans rfl; have hcz24_1 : w22.cell? ⟨gb109, 1, none⟩ = some (.slice none 0 0) := (blk_cell BK109.out 1).trans rfl; have hcz24_2 : w22.cell? ⟨gb109, 2, none⟩ = some (.slice none 0 0) := (blk_cell BK109.out 2).trans rfl; have hcz24_3 : w22.cell? ⟨gb109, 3, none⟩ = some (.slice none 0 0) := (blk_cell BK109.out 3).trans rfl; have hcz24_4 : w22.cell? ⟨gb109, 4, none⟩ = some (.string (⟨#[]⟩ : ByteArray)) := (blk_cell BK109.out 4).trans rfl; have hcz24_5 : w22.cell? ⟨gb109, 5, none⟩ = some (.string (⟨#[]⟩ : ByteArray)) := (blk_cell BK109.out 5).trans rfl; have hfz24_0 := blk_frozen BK109.out 0; have hfz24_1 := blk_frozen BK109.out 1; have hfz24_2 := blk_frozen BK109.out 2; have hfz24_3 := blk_frozen BK109.out 3; have hfz24_4 := blk_frozen BK109.out 4; have hfz24_5 := blk_frozen BK109.out 5))
                      go_ret
                      exact ⟨by first | rfl | (simp [errW_none, errW_some] <;> rfl) | (simp [*, errW_none, errW_some] <;> rfl), by repeat (first | (with_reducible first | exact HB.out | apply below_alloc | apply pw_below_drewN | apply below_drew1 | refine below_set ?_ GE101.out | refine below_set ?_ GE109.out) | exact HB.out)⟩
                    · rw [if_neg c20] at H
                      have c20b0 : decide (10 < (((rd_T42 l0_0 x4_2).f1).length : Int)) = false := decide_eq_false c20
                      have c20b1 : decide (10 < ((rd_T42 l0_0 x4_2).f1).length) = false := decide_eq_false (by omega)
                      clear c20
                      by_cases c25 : (((rd_T42 l0_0 x4_2).f2).length : Int) > 10
                      · rw [if_pos c25] at H
                        have c25b0 : decide (10 < (((rd_T42 l0_0 x4_2).f2).length : Int)) = true := decide_eq_true c25
                        have c25b1 : decide (10 < ((rd_T42 l0_0 x4_2).f2).length) = true := decide_eq_true (by omega)
                        clear c25
                        obtain rfl := Option.some.inj H
                        have hcz26_0 : wr.cell? ⟨gb101, 0, none⟩ = some (.slice A0_0 l0_0.length c0_0) := (blk_cell BK101.out 0).trans rfl
                        have hcz26_1 : wr.cell? ⟨gb101, 1, none⟩ = some (.slice A0_1 l0_1.length c0_1) := (blk_cell BK101.out 1).trans rfl
                        have hfz26_0 := blk_frozen BK101.out 0
                        have hfz26_1 := blk_frozen BK101.out 1
                        have p108 : 0 ≤ (x4_2 : Int) := of_decide_eq_true (by first | (with_reducible assumption) | assumption)
                        have q108 : x4_2 < (l0_0.length : Int) := of_decide_eq_true (by first | (with_reducible assumption) | assumption)
                        obtain ⟨ad108, A108_0, c108_0, A108_1, c108_1, A108_2, c108_2, A108_3, c108_3, e108, hx108_0, hx108_1, hx108_2, hx108_3, hx108_4, hx108_5, hl108_0, hi108_0, hl108_1, hi108_1, hl108_2, hi108_2, hl108_3, hi108_3⟩ := at_T42 HR0_0.out x4_2 p108 q108
                        cases e108
                        replace hx108_0 := (HB.out.cell (World.block_lt_of_cell? w _ hx108_0)).trans hx108_0
                        replace hx108_1 := (HB.out.cell (World.block_lt_of_cell? w _ hx108_1)).trans hx108_1
                        replace hx108_2 := (HB.out.cell (World.block_lt_of_cell? w _ hx108_2)).trans hx108_2
                        replace hx108_3 := (HB.out.cell (World.block_lt_of_cell? w _ hx108_3)).trans hx108_3
                        replace hx108_4 := (HB.out.cell (World.block_lt_of_cell? w _ hx108_4)).trans hx108_4
                        replace hx108_5 := (HB.out.cell (World.block_lt_of_cell? w _ hx108_5)).trans hx108_5
                        have HR108_0 := Aside0.mk hi108_0
                        have HC108_0 := Aside0.mk hl108_0
                        clear hi108_0 hl108_0
                        have HR108_1 := Aside0.mk hi108_1
                        have HC108_1 := Aside0.mk hl108_1
                        clear hi108_1 hl108_1
                        have HR108_2 := Aside0.mk hi108_2
                        have HC108_2 := Aside0.mk hl108_2
                        clear hi108_2 hl108_2
                        have HR108_3 := Aside0.mk hi108_3
                        have HC108_3 := Aside0.mk hl108_3
                        clear hi108_3 hl108_3
                        replace p108 := eq_true p108
                        replace q108 := eq_true q108
                        go_wp2_with (first | ((with_reducible refine gate_dst (N := 5) rfl ?_); (try (refine gate_guard (by rfl) ?_; dsimp only)); refine box_event ?hg (N := 5) ?hd (cs := #[.slice none 0 0, .slice none 0 0, .slice none 0 0, .slice none 0 0, .string (⟨#[]⟩ : ByteArray), .string (⟨#[]⟩ : ByteArray)]) (t := 42) ?hr ?_; (case hd => rfl); (case hg => rfl); (case hr => first | (go_simp; done) | (go_simp; rfl)); intro gb109 hg w27 hbox hb; have n0_ := Aside0.mk (Kd.R_below (by (with_reducible repeat (first | apply Kd.R_alloc | apply Kd.R_drewN | apply Kd.R_drew)); exact HO_3.out) hb); have n1_ := Aside0.mk (blk_below (g := gb101) (o := .cells #[.slice (some ad108) l0_0.length c0_0, .slice A0_1 l0_1.length c0_1] 25 (0, 0)) (by (with_reducible repeat (first | refine blk_drewN ?_ _ | refine blk_drew ?_ | refine blk_alloc ?_ _)); exact BK101.out) hb); have n2_ := Aside0.mk (below_step (by repeat (first | (with_reducible first | exact HB.out | apply below_alloc | apply pw_below_drewN | apply below_drew1 | refine below_set ?_ GE101.out) | exact HB.out)) hb); have n3_ := Aside0.mk (hbox); have n4_ := Aside0.mk ((by rw [hg]; exact (below_size (by repeat (first | (with_reducible first | exact HB.out | apply below_alloc | apply pw_below_drewN | apply below_drew1 | refine below_set ?_ GE101.out) | exact HB.out))) : w.heap.size ≤ gb109)); have n5_ := Aside0.mk ((by rw [hg]; exact (below_size (by repeat (first | (with_reducible first | exact HB.out | apply below_alloc | apply pw_below_drewN | apply below_drew1 | refine below_set ?_ GE101.out) | exact HB.out))) : w.heap.size ≤ gb109)); have n6_ := Aside0.mk ((by rw [hg]; exact Nat.ne_of_lt (blk_lt (g := gb101) (o := .cells #[.slice (some ad108) l0_0.length c0_0, .slice A0_1 l0_1.length c0_1] 25 (0, 0)) (by (with_reducible repeat (first | refine blk_drewN ?_ _ | refine blk_drew ?_ | refine blk_alloc ?_ _)); exact BK101.out)) : gb101 ≠ gb109)); have n7_ := Aside0.mk ((by rw [hg]; exact Nat.ne_of_gt (blk_lt (g := gb101) (o := .cells #[.slice (some ad108) l0_0.length c0_0, .slice A0_1 l0_1.length c0_1] 25 (0, 0)) (by (with_reducible repeat (first | refine blk_drewN ?_ _ | refine blk_drew ?_ | refine blk_alloc ?_ _)); exact BK101.out)) : gb109 ≠ gb101)); clear HO_3; clear BK101; clear HB; have HO_3 := n0_; have BK101 := n1_; have HB := n2_; have BK109 := n3_; have GW109 := n4_; have GE109 := n5_; have NB101_109 := n6_; have NB109_101 := n7_; clear n0_ n1_ n2_ n3_ n4_ n5_ n6_ n7_; clear hb hbox hg; have hnb28 := NB109_101.out; have hnc28 := NB101_109.out; have hcz29_0 : w27.cell? ⟨gb109, 0, none⟩ = some (.slice none 0 0) := (blk_cell BK109.out 0).trans rfl; have hcz29_1 : w27.cell? ⟨gb109, 1, none⟩ = some (.slice none 0 0) := (blk_cell BK109.out 1).trans rfl; have hcz29_2 : w27.cell? ⟨gb109, 2, none⟩ = some (.slice none 0 0) := (blk_cell BK109.out 2).trans rfl; have hcz29_3 : w27.cell? ⟨gb109, 3, none⟩ = some (.slice none 0 0) := (blk_cell BK109.out 3).trans rfl; have hcz29_4 : w27.cell? ⟨gb109, 4, none⟩ = some (.string (⟨#[]⟩ : ByteArray)) := (blk_cell BK109.out 4).trans rfl; have hcz29_5 : w27.cell? ⟨gb109, 5, none⟩ = some (.string (⟨#[]⟩ : ByteArray)) := (blk_cell BK109.out 5).trans rfl; have hfz29_0 := blk_frozen BK109.out 0; have hfz29_1 := blk_frozen BK109.out 1; have hfz29_2 := blk_frozen BK109.out 2; have hfz29_3 := blk_frozen BK109.out 3; have hfz29_4 := blk_frozen BK109.out 4; have hfz29_5 := blk_frozen BK109.out 5))
                        go_ret
                        exact ⟨by first | rfl | (simp [errW_none, errW_some] <;> rfl) | (simp [*, errW_none, errW_some] <;> rfl), by repeat (first | (with_reducible first | exact HB.out | apply below_alloc | apply pw_below_drewN | apply below_drew1 | refine below_set ?_ GE101.out | refine below_set ?_ GE109.out) | exact HB.out)⟩
                      · rw [if_neg c25] at H
                        have c25b0 : decide (10 < (((rd_T42 l0_0 x4_2).f2).length : Int)) = false := decide_eq_false c25
                        have c25b1 : decide (10 < ((rd_T42 l0_0 x4_2).f2).length) = false := decide_eq_false (by omega)
                        clear c25
                        by_cases c30 : (((rd_T42 l0_0 x4_2).f3).length : Int) > 10
                        · rw [if_pos c30] at H
                          have c30b0 : decide (10 < (((rd_T42 l0_0 x4_2).f3).length : Int)) = true := decide_eq_true c30
                          have c30b1 : decide (10 < ((rd_T42 l0_0 x4_2).f3).length) = true := decide_eq_true (by omega)
                          clear c30
                          obtain rfl := Option.some.inj H
                          have hcz31_0 : wr.cell? ⟨gb101, 0, none⟩ = some (.slice A0_0 l0_0.length c0_0) := (blk_cell BK101.out 0).trans rfl
                          have hcz31_1 : wr.cell? ⟨gb101, 1, none⟩ = some (.slice A0_1 l0_1.length c0_1) := (blk_cell BK101.out 1).trans rfl
                          have hfz31_0 := blk_frozen BK101.out 0
                          have hfz31_1 := blk_frozen BK101.out 1
                          have p108 : 0 ≤ (x4_2 : Int) := of_decide_eq_true (by first | (with_reducible assumption) | assumption)
                          have q108 : x4_2 < (l0_0.length : Int) := of_decide_eq_true (by first | (with_reducible assumption) | assumption)
                          obtain ⟨ad108, A108_0, c108_0, A108_1, c108_1, A108_2, c108_2, A108_3, c108_3, e108, hx108_0, hx108_1, hx108_2, hx108_3, hx108_4, hx108_5, hl108_0, hi108_0, hl108_1, hi108_1, hl108_2, hi108_2, hl108_3, hi108_3⟩ := at_T42 HR0_0.out x4_2 p108 q108
                          cases e108
                          replace hx108_0 := (HB.out.cell (World.block_lt_of_cell? w _ hx108_0)).trans hx108_0
                          replace hx108_1 := (HB.out.cell (World.block_lt_of_cell? w _ hx108_1)).trans hx108_1
                          replace hx108_2 := (HB.out.cell (World.block_lt_of_cell? w _ hx108_2)).trans hx108_2
                          replace hx108_3 := (HB.out.cell (World.block_lt_of_cell? w _ hx108_3)).trans hx108_3
                          replace hx108_4 := (HB.out.cell (World.block_lt_of_cell? w _ hx108_4)).trans hx108_4
                          replace hx108_5 := (HB.out.cell (World.block_lt_of_cell? w _ hx108_5)).trans hx108_5
                          have HR108_0 := Aside0.mk hi108_0
                          have HC108_0 := Aside0.mk hl108_0
                          clear hi108_0 hl108_0
                          have HR108_1 := Aside0.mk hi108_1
                          have HC108_1 := Aside0.mk hl108_1
                          clear hi108_1 hl108_1
                          have HR108_2 := Aside0.mk hi108_2
                          have HC108_2 := Aside0.mk hl108_2
                          clear hi108_2 hl108_2
                          have HR108_3 := Aside0.mk hi108_3
                          have HC108_3 := Aside0.mk hl108_3
                          clear hi108_3 hl108_3
                          replace p108 := eq_true p108
                          replace q108 := eq_true q108
                          go_wp2_with (first | ((with_reducible refine gate_dst (N := 5) rfl ?_); (try (refine gate_guard (by rfl) ?_; dsimp only)); refine box_event ?hg (N := 5) ?hd (cs := #[.slice none 0 0, .slice none 0 0, .slice none 0 0, .slice none 0 0, .string (⟨#[]⟩ : ByteArray), .string (⟨#[]⟩ : ByteArray)]) (t := 42) ?hr ?_; (case hd => rfl); (case hg => rfl); (case hr => first | (go_simp; done) | (go_simp; rfl)); intro gb109 hg w32 hbox hb; have n0_ := Aside0.mk (Kd.R_below (by (with_reducible repeat (first | apply Kd.R_alloc | apply Kd.R_drewN | apply Kd.R_drew)); exact HO_3.out) hb); have n1_ := Aside0.mk (blk_below (g := gb101) (o := .cells #[.slice (some ad108) l0_0.length c0_0, .slice A0_1 l0_1.length c0_1] 25 (0, 0)) (by (with_reducible repeat (first | refine blk_drewN ?_ _ | refine blk_drew ?_ | refine blk_alloc ?_ _)); exact BK101.out) hb); have n2_ := Aside0.mk (below_step (by repeat (first | (with_reducible first | exact HB.out | apply below_alloc | apply pw_below_drewN | apply below_drew1 | refine below_set ?_ GE101.out) | exact HB.out)) hb); have n3_ := Aside0.mk (hbox); have n4_ := Aside0.mk ((by rw [hg]; exact (below_size (by repeat (first | (with_reducible first | exact HB.out | apply below_alloc | apply pw_below_drewN | apply below_drew1 | refine below_set ?_ GE101.out) | exact HB.out))) : w.heap.size ≤ gb109)); have n5_ := Aside0.mk ((by rw [hg]; exact (below_size (by repeat (first | (with_reducible first | exact HB.out | apply below_alloc | apply pw_below_drewN | apply below_drew1 | refine below_set ?_ GE101.out) | exact HB.out))) : w.heap.size ≤ gb109)); have n6_ := Aside0.mk ((by rw [hg]; exact Nat.ne_of_lt (blk_lt (g := gb101) (o := .cells #[.slice (some ad108) l0_0.length c0_0, .slice A0_1 l0_1.length c0_1] 25 (0, 0)) (by (with_reducible repeat (first | refine blk_drewN ?_ _ | refine blk_drew ?_ | refine blk_alloc ?_ _)); exact BK101.out)) : gb101 ≠ gb109)); have n7_ := Aside0.mk ((by rw [hg]; exact Nat.ne_of_gt (blk_lt (g := gb101) (o := .cells #[.slice (some ad108) l0_0.length c0_0, .slice A0_1 l0_1.length c0_1] 25 (0, 0)) (by (with_reducible repeat (first | refine blk_drewN ?_ _ | refine blk_drew ?_ | refine blk_alloc ?_ _)); exact BK101.out)) : gb109 ≠ gb101)); clear HO_3; clear BK101; clear HB; have HO_3 := n0_; have BK101 := n1_; have HB := n2_; have BK109 := n3_; have GW109 := n4_; have GE109 := n5_; have NB101_109 := n6_; have NB109_101 := n7_; clear n0_ n1_ n2_ n3_ n4_ n5_ n6_ n7_; clear hb hbox hg; have hnb33 := NB109_101.out; have hnc33 := NB101_109.out; have hcz34_0 : w32.cell? ⟨gb109, 0, none⟩ = some (.slice none 0 0) := (blk_cell BK109.out 0).trans rfl; have hcz34_1 : w32.cell? ⟨gb109, 1, none⟩ = some (.slice none 0 0) := (blk_cell BK109.out 1).trans rfl; have hcz34_2 : w32.cell? ⟨gb109, 2, none⟩ = some (.slice none 0 0) := (blk_cell BK109.out 2).trans rfl; have hcz34_3 : w32.cell? ⟨gb109, 3, none⟩ = some (.slice none 0 0) := (blk_cell BK109.out 3).trans rfl; have hcz34_4 : w32.cell? ⟨gb109, 4, none⟩ = some (.string (⟨#[]⟩ : ByteArray)) := (blk_cell BK109.out 4).trans rfl; have hcz34_5 : w32.cell? ⟨gb109, 5, none⟩ = some (.string (⟨#[]⟩ : ByteArray)) := (blk_cell BK109.out 5).trans rfl; have hfz34_0 := blk_frozen BK109.out 0; have hfz34_1 := blk_frozen BK109.out 1; have hfz34_2 := blk_frozen BK109.out 2; have hfz34_3 := blk_frozen BK109.out 3; have hfz34_4 := blk_frozen BK109.out 4; have hfz34_5 := blk_frozen BK109.out 5))
                          go_ret
                          exact ⟨by first | rfl | (simp [errW_none, errW_some] <;> rfl) | (simp [*, errW_none, errW_some] <;> rfl), by repeat (first | (with_reducible first | exact HB.out | apply below_alloc | apply pw_below_drewN | apply below_drew1 | refine below_set ?_ GE101.out | refine below_set ?_ GE109.out) | exact HB.out)⟩
                        · rw [if_neg c30] at H
                          have c30b0 : decide (10 < (((rd_T42 l0_0 x4_2).f3).length : Int)) = false := decide_eq_false c30
                          have c30b1 : decide (10 < ((rd_T42 l0_0 x4_2).f3).length) = false := decide_eq_false (by omega)
                          clear c30
                          by_cases c35 : (((rd_T42 l0_0 x4_2).f4).size : Int) > 300
                          · rw [if_pos c35] at H
                            have c35b0 : decide (300 < (((rd_T42 l0_0 x4_2).f4).size : Int)) = true := decide_eq_true c35
                            have c35b1 : decide (300 < ((rd_T42 l0_0 x4_2).f4).size) = true := decide_eq_true (by omega)
                            clear c35
                            obtain rfl := Option.some.inj H
                            have hcz36_0 : wr.cell? ⟨gb101, 0, none⟩ = some (.slice A0_0 l0_0.length c0_0) := (blk_cell BK101.out 0).trans rfl
                            have hcz36_1 : wr.cell? ⟨gb101, 1, none⟩ = some (.slice A0_1 l0_1.length c0_1) := (blk_cell BK101.out 1).trans rfl
                            have hfz36_0 := blk_frozen BK101.out 0
                            have hfz36_1 := blk_frozen BK101.out 1
                            have p108 : 0 ≤ (x4_2 : Int) := of_decide_eq_true (by first | (with_reducible assumption) | assumption)
                            have q108 : x4_2 < (l0_0.length : Int) := of_decide_eq_true (by first | (with_reducible assumption) | assumption)
                            obtain ⟨ad108, A108_0, c108_0, A108_1, c108_1, A108_2, c108_2, A108_3, c108_3, e108, hx108_0, hx108_1, hx108_2, hx108_3, hx108_4, hx108_5, hl108_0, hi108_0, hl108_1, hi108_1, hl108_2, hi108_2, hl108_3, hi108_3⟩ := at_T42 HR0_0.out x4_2 p108 q108
                            cases e108
                            replace hx108_0 := (HB.out.cell (World.block_lt_of_cell? w _ hx108_0)).trans hx108_0
                            replace hx108_1 := (HB.out.cell (World.block_lt_of_cell? w _ hx108_1)).trans hx108_1
                            replace hx108_2 := (HB.out.cell (World.block_lt_of_cell? w _ hx108_2)).trans hx108_2
                            replace hx108_3 := (HB.out.cell (World.block_lt_of_cell? w _ hx108_3)).trans hx108_3
                            replace hx108_4 := (HB.out.cell (World.block_lt_of_cell? w _ hx108_4)).trans hx108_4
                            replace hx108_5 := (HB.out.cell (World.block_lt_of_cell? w _ hx108_5)).trans hx108_5
                            have HR108_0 := Aside0.mk hi108_0
                            have HC108_0 := Aside0.mk hl108_0
                            clear hi108_0 hl108_0
                            have HR108_1 := Aside0.mk hi108_1
                            have HC108_1 := Aside0.mk hl108_1
                            clear hi108_1 hl108_1
                            have HR108_2 := Aside0.mk hi108_2
                            have HC108_2 := Aside0.mk hl108_2
                            clear hi108_2 hl108_2
                            have HR108_3 := Aside0.mk hi108_3
                            have HC108_3 := Aside0.mk hl108_3
                            clear hi108_3 hl108_3
                            replace p108 := eq_true p108
                            replace q108 := eq_true q108
                            go_wp2_with (first | ((with_reducible refine gate_dst (N := 5) rfl ?_); (try (refine gate_guard (by rfl) ?_; dsimp only)); refine box_event ?hg (N := 5) ?hd (cs := #[.slice none 0 0, .slice none 0 0, .slice none 0 0, .slice none 0 0, .string (⟨#[]⟩ : ByteArray), .string (⟨#[]⟩ : ByteArray)]) (t := 42) ?hr ?_; (case hd => rfl); (case hg => rfl); (case hr => first | (go_simp; done) | (go_simp; rfl)); intro gb109 hg w37 hbox hb; have n0_ := Aside0.mk (Kd.R_below (by (with_reducible repeat (first | apply Kd.R_alloc | apply Kd.R_drewN | apply Kd.R_drew)); exact HO_3.out) hb); have n1_ := Aside0.mk (blk_below (g := gb101) (o := .cells #[.slice (some ad108) l0_0.length c0_0, .slice A0_1 l0_1.length c0_1] 25 (0, 0)) (by (with_reducible repeat (first | refine blk_drewN ?_ _ | refine blk_drew ?_ | refine blk_alloc ?_ _)); exact BK101.out) hb); have n2_ := Aside0.mk (below_step (by repeat (first | (with_reducible first | exact HB.out | apply below_alloc | apply pw_below_drewN | apply below_drew1 | refine below_set ?_ GE101.out) | exact HB.out)) hb); have n3_ := Aside0.mk (hbox); have n4_ := Aside0.mk ((by rw [hg]; exact (below_size (by repeat (first | (with_reducible first | exact HB.out | apply below_alloc | apply pw_below_drewN | apply below_drew1 | refine below_set ?_ GE101.out) | exact HB.out))) : w.heap.size ≤ gb109)); have n5_ := Aside0.mk ((by rw [hg]; exact (below_size (by repeat (first | (with_reducible first | exact HB.out | apply below_alloc | apply pw_below_drewN | apply below_drew1 | refine below_set ?_ GE101.out) | exact HB.out))) : w.heap.size ≤ gb109)); have n6_ := Aside0.mk ((by rw [hg]; exact Nat.ne_of_lt (blk_lt (g := gb101) (o := .cells #[.slice (some ad108) l0_0.length c0_0, .slice A0_1 l0_1.length c0_1] 25 (0, 0)) (by (with_reducible repeat (first | refine blk_drewN ?_ _ | refine blk_drew ?_ | refine blk_alloc ?_ _)); exact BK101.out)) : gb101 ≠ gb109)); have n7_ := Aside0.mk ((by rw [hg]; exact Nat.ne_of_gt (blk_lt (g := gb101) (o := .cells #[.slice (some ad108) l0_0.length c0_0, .slice A0_1 l0_1.length c0_1] 25 (0, 0)) (by (with_reducible repeat (first | refine blk_drewN ?_ _ | refine blk_drew ?_ | refine blk_alloc ?_ _)); exact BK101.out)) : gb109 ≠ gb101)); clear HO_3; clear BK101; clear HB; have HO_3 := n0_; have BK101 := n1_; have HB := n2_; have BK109 := n3_; have GW109 := n4_; have GE109 := n5_; have NB101_109 := n6_; have NB109_101 := n7_; clear n0_ n1_ n2_ n3_ n4_ n5_ n6_ n7_; clear hb hbox hg; have hnb38 := NB109_101.out; have hnc38 := NB101_109.out; have hcz39_0 : w37.cell? ⟨gb109, 0, none⟩ = some (.slice none 0 0) := (blk_cell BK109.out 0).trans rfl; have hcz39_1 : w37.cell? ⟨gb109, 1, none⟩ = some (.slice none 0 0) := (blk_cell BK109.out 1).trans rfl; have hcz39_2 : w37.cell? ⟨gb109, 2, none⟩ = some (.slice none 0 0) := (blk_cell BK109.out 2).trans rfl; have hcz39_3 : w37.cell? ⟨gb109, 3, none⟩ = some (.slice none 0 0) := (blk_cell BK109.out 3).trans rfl; have hcz39_4 : w37.cell? ⟨gb109, 4, none⟩ = some (.string (⟨#[]⟩ : ByteArray)) := (blk_cell BK109.out 4).trans rfl; have hcz39_5 : w37.cell? ⟨gb109, 5, none⟩ = some (.string (⟨#[]⟩ : ByteArray)) := (blk_cell BK109.out 5).trans rfl; have hfz39_0 := blk_frozen BK109.out 0; have hfz39_1 := blk_frozen BK109.out 1; have hfz39_2 := blk_frozen BK109.out 2; have hfz39_3 := blk_frozen BK109.out 3; have hfz39_4 := blk_frozen BK109.out 4; have hfz39_5 := blk_frozen BK109.out 5))
                            go_ret
                            exact ⟨by first | rfl | (simp [errW_none, errW_some] <;> rfl) | (simp [*, errW_none, errW_some] <;> rfl), by repeat (first | (with_reducible first | exact HB.out | apply below_alloc | apply pw_below_drewN | apply below_drew1 | refine below_set ?_ GE101.out | refine below_set ?_ GE109.out) | exact HB.out)⟩
                          · rw [if_neg c35] at H
                            have c35b0 : decide (300 < (((rd_T42 l0_0 x4_2).f4).size : Int)) = false := decide_eq_false c35
                            have c35b1 : decide (300 < ((rd_T42 l0_0 x4_2).f4).size) = false := decide_eq_false (by omega)
                            clear c35
                            by_cases c40 : (((rd_T42 l0_0 x4_2).f5).size : Int) > 200
                            · rw [if_pos c40] at H
                              have c40b0 : decide (200 < (((rd_T42 l0_0 x4_2).f5).size : Int)) = true := decide_eq_true c40
                              have c40b1 : decide (200 < ((rd_T42 l0_0 x4_2).f5).size) = true := decide_eq_true (by omega)
                              clear c40
                              obtain rfl := Option.some.inj H
                              have hcz41_0 : wr.cell? ⟨gb101, 0, none⟩ = some (.slice A0_0 l0_0.length c0_0) := (blk_cell BK101.out 0).trans rfl
                              have hcz41_1 : wr.cell? ⟨gb101, 1, none⟩ = some (.slice A0_1 l0_1.length c0_1) := (blk_cell BK101.out 1).trans rfl
                              have hfz41_0 := blk_frozen BK101.out 0
                              have hfz41_1 := blk_frozen BK101.out 1
                              have p108 : 0 ≤ (x4_2 : Int) := of_decide_eq_true (by first | (with_reducible assumption) | assumption)
                              have q108 : x4_2 < (l0_0.length : Int) := of_decide_eq_true (by first | (with_reducible assumption) | assumption)
                              obtain ⟨ad108, A108_0, c108_0, A108_1, c108_1, A108_2, c108_2, A108_3, c108_3, e108, hx108_0, hx108_1, hx108_2, hx108_3, hx108_4, hx108_5, hl108_0, hi108_0, hl108_1, hi108_1, hl108_2, hi108_2, hl108_3, hi108_3⟩ := at_T42 HR0_0.out x4_2 p108 q108
                              cases e108
                              replace hx108_0 := (HB.out.cell (World.block_lt_of_cell? w _ hx108_0)).trans hx108_0
                              replace hx108_1 := (HB.out.cell (World.block_lt_of_cell? w _ hx108_1)).trans hx108_1
                              replace hx108_2 := (HB.out.cell (World.block_lt_of_cell? w _ hx108_2)).trans hx108_2
                              replace hx108_3 := (HB.out.cell (World.block_lt_of_cell? w _ hx108_3)).trans hx108_3
                              replace hx108_4 := (HB.out.cell (World.block_lt_of_cell? w _ hx108_4)).trans hx108_4
                              replace hx108_5 := (HB.out.cell (World.block_lt_of_cell? w _ hx108_5)).trans hx108_5
                              have HR108_0 := Aside0.mk hi108_0
                              have HC108_0 := Aside0.mk hl108_0
                              clear hi108_0 hl108_0
                              have HR108_1 := Aside0.mk hi108_1
                              have HC108_1 := Aside0.mk hl108_1
                              clear hi108_1 hl108_1
                              have HR108_2 := Aside0.mk hi108_2
                              have HC108_2 := Aside0.mk hl108_2
                              clear hi108_2 hl108_2
                              have HR108_3 := Aside0.mk hi108_3
                              have HC108_3 := Aside0.mk hl108_3
                              clear hi108_3 hl108_3
                              replace p108 := eq_true p108
                              replace q108 := eq_true q108
                              go_wp2_with (first | ((with_reducible refine gate_dst (N := 5) rfl ?_); (try (refine gate_guard (by rfl) ?_; dsimp only)); refine box_event ?hg (N := 5) ?hd (cs := #[.slice none 0 0, .slice none 0 0, .slice none 0 0, .slice none 0 0, .string (⟨#[]⟩ : ByteArray), .string (⟨#[]⟩ : ByteArray)]) (t := 42) ?hr ?_; (case hd => rfl); (case hg => rfl); (case hr => first | (go_simp; done) | (go_simp; rfl)); intro gb109 hg w42 hbox hb; have n0_ := Aside0.mk (Kd.R_below (by (with_reducible repeat (first | apply Kd.R_alloc | apply Kd.R_drewN | apply Kd.R_drew)); exact HO_3.out) hb); have n1_ := Aside0.mk (blk_below (g := gb101) (o := .cells #[.slice (some ad108) l0_0.length c0_0, .slice A0_1 l0_1.length c0_1] 25 (0, 0)) (by (with_reducible repeat (first | refine blk_drewN ?_ _ | refine blk_drew ?_ | refine blk_alloc ?_ _)); exact BK101.out) hb); have n2_ := Aside0.mk (below_step (by repeat (first | (with_reducible first | exact HB.out | apply below_alloc | apply pw_below_drewN | apply below_drew1 | refine below_set ?_ GE101.out) | exact HB.out)) hb); have n3_ := Aside0.mk (hbox); have n4_ := Aside0.mk ((by rw [hg]; exact (below_size (by repeat (first | (with_reducible first | exact HB.out | apply below_alloc | apply pw_below_drewN | apply below_drew1 | refine below_set ?_ GE101.out) | exact HB.out))) : w.heap.size ≤ gb109)); have n5_ := Aside0.mk ((by rw [hg]; exact (below_size (by repeat (first | (with_reducible first | exact HB.out | apply below_alloc | apply pw_below_drewN | apply below_drew1 | refine below_set ?_ GE101.out) | exact HB.out))) : w.heap.size ≤ gb109)); have n6_ := Aside0.mk ((by rw [hg]; exact Nat.ne_of_lt (blk_lt (g := gb101) (o := .cells #[.slice (some ad108) l0_0.length c0_0, .slice A0_1 l0_1.length c0_1] 25 (0, 0)) (by (with_reducible repeat (first | refine blk_drewN ?_ _ | refine blk_drew ?_ | refine blk_alloc ?_ _)); exact BK101.out)) : gb101 ≠ gb109)); have n7_ := Aside0.mk ((by rw [hg]; exact Nat.ne_of_gt (blk_lt (g := gb101) (o := .cells #[.slice (some ad108) l0_0.length c0_0, .slice A0_1 l0_1.length c0_1] 25 (0, 0)) (by (with_reducible repeat (first | refine blk_drewN ?_ _ | refine blk_drew ?_ | refine blk_alloc ?_ _)); exact BK101.out)) : gb109 ≠ gb101)); clear HO_3; clear BK101; clear HB; have HO_3 := n0_; have BK101 := n1_; have HB := n2_; have BK109 := n3_; have GW109 := n4_; have GE109 := n5_; have NB101_109 := n6_; have NB109_101 := n7_; clear n0_ n1_ n2_ n3_ n4_ n5_ n6_ n7_; clear hb hbox hg; have hnb43 := NB109_101.out; have hnc43 := NB101_109.out; have hcz44_0 : w42.cell? ⟨gb109, 0, none⟩ = some (.slice none 0 0) := (blk_cell BK109.out 0).trans rfl; have hcz44_1 : w42.cell? ⟨gb109, 1, none⟩ = some (.slice none 0 0) := (blk_cell BK109.out 1).trans rfl; have hcz44_2 : w42.cell? ⟨gb109, 2, none⟩ = some (.slice none 0 0) := (blk_cell BK109.out 2).trans rfl; have hcz44_3 : w42.cell? ⟨gb109, 3, none⟩ = some (.slice none 0 0) := (blk_cell BK109.out 3).trans rfl; have hcz44_4 : w42.cell? ⟨gb109, 4, none⟩ = some (.string (⟨#[]⟩ : ByteArray)) := (blk_cell BK109.out 4).trans rfl; have hcz44_5 : w42.cell? ⟨gb109, 5, none⟩ = some (.string (⟨#[]⟩ : ByteArray)) := (blk_cell BK109.out 5).trans rfl; have hfz44_0 := blk_frozen BK109.out 0; have hfz44_1 := blk_frozen BK109.out 1; have hfz44_2 := blk_frozen BK109.out 2; have hfz44_3 := blk_frozen BK109.out 3; have hfz44_4 := blk_frozen BK109.out 4; have hfz44_5 := blk_frozen BK109.out 5))
                              go_ret
                              exact ⟨by first | rfl | (simp [errW_none, errW_some] <;> rfl) | (simp [*, errW_none, errW_some] <;> rfl), by repeat (first | (with_reducible first | exact HB.out | apply below_alloc | apply pw_below_drewN | apply below_drew1 | refine below_set ?_ GE101.out | refine below_set ?_ GE109.out) | exact HB.out)⟩
                            · rw [if_neg c40] at H
                              have c40b0 : decide (200 < (((rd_T42 l0_0 x4_2).f5).size : Int)) = false := decide_eq_false c40
                              have c40b1 : decide (200 < ((rd_T42 l0_0 x4_2).f5).size) = false := decide_eq_false (by omega)
                              clear c40
                              by_cases c45 : x3_2.length + ((rd_T42 l0_0 x4_2).f0).length < 8796093022208
                              · rw [if_pos c45] at H
                                have LMc45 := Aside0.mk c45
                                clear c45
                                obtain ⟨y110, hy110⟩ : ∃ y_ : List ByteArray, y_ = (x3_2 ++ ((rd_T42 l0_0 x4_2).f0)) := ⟨_, rfl⟩
                                replace H : (if y110.length + ((rd_T42 l0_0 x4_2).f1).length < 8796093022208 then ((some (y110 ++ ((rd_T42 l0_0 x4_2).f1) : List ByteArray)).bind fun y113 => (if y113.length + ((rd_T42 l0_0 x4_2).f2).length < 8796093022208 then ((some (y113 ++ ((rd_T42 l0_0 x4_2).f2) : List ByteArray)).bind fun y116 => (if y116.length + ((rd_T42 l0_0 x4_2).f3).length < 8796093022208 then (bellowslaw12_few.l0 k2 (y116 ++ ((rd_T42 l0_0 x4_2).f3)) (wrap64 (x4_2 + 1)) l0_0 l0_1) else (none))) else (none))) else (none)) = some r := by first | (rw [hy110]; with_reducible exact H) | (have H2_ := (Option.bind_some _ _).symm.trans H; rw [hy110]; with_reducible exact H2_) | (have H2_ := (Option.bind_some _ _).symm.trans H; with_reducible exact H2_) | with_reducible exact H | (rw [hy110]; exact H) | exact H
                                have Ny110 := Aside0.mk hy110
                                clear hy110
                                by_cases c46 : y110.length + ((rd_T42 l0_0 x4_2).f1).length < 8796093022208
                                · rw [if_pos c46] at H
                                  have LMc46 := Aside0.mk c46
                                  clear c46
                                  obtain ⟨y113, hy113⟩ : ∃ y_ : List ByteArray, y_ = (y110 ++ ((rd_T42 l0_0 x4_2).f1)) := ⟨_, rfl⟩
                                  replace H : (if y113.length + ((rd_T42 l0_0 x4_2).f2).length < 8796093022208 then ((some (y113 ++ ((rd_T42 l0_0 x4_2).f2) : List ByteArray)).bind fun y116 => (if y116.length + ((rd_T42 l0_0 x4_2).f3).length < 8796093022208 then (bellowslaw12_few.l0 k2 (y116 ++ ((rd_T42 l0_0 x4_2).f3)) (wrap64 (x4_2 + 1)) l0_0 l0_1) else (none))) else (none)) = some r := by first | (rw [hy113]; with_reducible exact H) | (have H2_ := (Option.bind_some _ _).symm.trans H; rw [hy113]; with_reducible exact H2_) | (have H2_ := (Option.bind_some _ _).symm.trans H; with_reducible exact H2_) | with_reducible exact H | (rw [hy113]; exact H) | exact H
                                  have Ny113 := Aside0.mk hy113
                                  clear hy113
                                  by_cases c47 : y113.length + ((rd_T42 l0_0 x4_2).f2).length < 8796093022208
                                  · rw [if_pos c47] at H
                                    have LMc47 := Aside0.mk c47
                                    clear c47
                                    obtain ⟨y116, hy116⟩ : ∃ y_ : List ByteArray, y_ = (y113 ++ ((rd_T42 l0_0 x4_2).f2)) := ⟨_, rfl⟩
                                    replace H : (if y116.length + ((rd_T42 l0_0 x4_2).f3).length < 8796093022208 then (bellowslaw12_few.l0 k2 (y116 ++ ((rd_T42 l0_0 x4_2).f3)) (wrap64 (x4_2 + 1)) l0_0 l0_1) else (none)) = some r := by first | (rw [hy116]; with_reducible exact H) | (have H2_ := (Option.bind_some _ _).symm.trans H; rw [hy116]; with_reducible exact H2_) | (have H2_ := (Option.bind_some _ _).symm.trans H; with_reducible exact H2_) | with_reducible exact H | (rw [hy116]; exact H) | exact H
                                    have Ny116 := Aside0.mk hy116
                                    clear hy116
                                    by_cases c48 : y116.length + ((rd_T42 l0_0 x4_2).f3).length < 8796093022208
                                    · rw [if_pos c48] at H
                                      have LMc48 := Aside0.mk c48
                                      clear c48
                                      obtain ⟨y119, hy119⟩ : ∃ y_ : List ByteArray, y_ = (y116 ++ ((rd_T42 l0_0 x4_2).f3)) := ⟨_, rfl⟩
                                      replace H : (bellowslaw12_few.l0 k2 y119 (wrap64 (x4_2 + 1)) l0_0 l0_1) = some r := by first | (rw [hy119]; with_reducible exact H) | (have H2_ := (Option.bind_some _ _).symm.trans H; rw [hy119]; with_reducible exact H2_) | (have H2_ := (Option.bind_some _ _).symm.trans H; with_reducible exact H2_) | with_reducible exact H | (rw [hy119]; exact H) | exact H
                                      have Ny119 := Aside0.mk hy119
                                      clear hy119
                                      have H' := Aside0.mk H
                                      clear H
                                      have hcz49_0 : wr.cell? ⟨gb101, 0, none⟩ = some (.slice A0_0 l0_0.length c0_0) := (blk_cell BK101.out 0).trans rfl
                                      have hcz49_1 : wr.cell? ⟨gb101, 1, none⟩ = some (.slice A0_1 l0_1.length c0_1) := (blk_cell BK101.out 1).trans rfl
                                      have hfz49_0 := blk_frozen BK101.out 0
                                      have hfz49_1 := blk_frozen BK101.out 1
                                      have p108 : 0 ≤ (x4_2 : Int) := of_decide_eq_true (by first | (with_reducible assumption) | assumption)
                                      have q108 : x4_2 < (l0_0.length : Int) := of_decide_eq_true (by first | (with_reducible assumption) | assumption)
                                      obtain ⟨ad108, A108_0, c108_0, A108_1, c108_1, A108_2, c108_2, A108_3, c108_3, e108, hx108_0, hx108_1, hx108_2, hx108_3, hx108_4, hx108_5, hl108_0, hi108_0, hl108_1, hi108_1, hl108_2, hi108_2, hl108_3, hi108_3⟩ := at_T42 HR0_0.out x4_2 p108 q108
                                      cases e108
                                      replace hx108_0 := (HB.out.cell (World.block_lt_of_cell? w _ hx108_0)).trans hx108_0
                                      replace hx108_1 := (HB.out.cell (World.block_lt_of_cell? w _ hx108_1)).trans hx108_1
                                      replace hx108_2 := (HB.out.cell (World.block_lt_of_cell? w _ hx108_2)).trans hx108_2
                                      replace hx108_3 := (HB.out.cell (World.block_lt_of_cell? w _ hx108_3)).trans hx108_3
                                      replace hx108_4 := (HB.out.cell (World.block_lt_of_cell? w _ hx108_4)).trans hx108_4
                                      replace hx108_5 := (HB.out.cell (World.block_lt_of_cell? w _ hx108_5)).trans hx108_5
                                      have HR108_0 := Aside0.mk hi108_0
                                      have HC108_0 := Aside0.mk hl108_0
                                      clear hi108_0 hl108_0
                                      have HR108_1 := Aside0.mk hi108_1
                                      have HC108_1 := Aside0.mk hl108_1
                                      clear hi108_1 hl108_1
                                      have HR108_2 := Aside0.mk hi108_2
                                      have HC108_2 := Aside0.mk hl108_2
                                      clear hi108_2 hl108_2
                                      have HR108_3 := Aside0.mk hi108_3
                                      have HC108_3 := Aside0.mk hl108_3
                                      clear hi108_3 hl108_3
                                      replace p108 := eq_true p108
                                      replace q108 := eq_true q108
                                      try go_wp2_with (first | ((with_reducible refine gate_dst (N := 5) rfl ?_); (try (refine gate_guard (by rfl) ?_; dsimp only)); refine box_event ?hg (N := 5) ?hd (cs := #[.slice none 0 0, .slice none 0 0, .slice none 0 0, .slice none 0 0, .string (⟨#[]⟩ : ByteArray), .string (⟨#[]⟩ : ByteArray)]) (t := 42) ?hr ?_; (case hd => rfl); (case hg => rfl); (case hr => first | (go_simp; done) | (go_simp; rfl)); intro gb109 hg w50 hbox hb; have n0_ := Aside0.mk (Kd.R_below (by (with_reducible repeat (first | apply Kd.R_alloc | apply Kd.R_drewN | apply Kd.R_drew)); exact HO_3.out) hb); have n1_ := Aside0.mk (blk_below (g := gb101) (o := .cells #[.slice (some ad108) l0_0.length c0_0, .slice A0_1 l0_1.length c0_1] 25 (0, 0)) (by (with_reducible repeat (first | refine blk_drewN ?_ _ | refine blk_drew ?_ | refine blk_alloc ?_ _)); exact BK101.out) hb); have n2_ := Aside0.mk (below_step (by repeat (first | (with_reducible first | exact HB.out | apply below_alloc | apply pw_below_drewN | apply below_drew1 | refine below_set ?_ GE101.out) | exact HB.out)) hb); have n3_ := Aside0.mk (hbox); have n4_ := Aside0.mk ((by rw [hg]; exact (below_size (by repeat (first | (with_reducible first | exact HB.out | apply below_alloc | apply pw_below_drewN | apply below_drew1 | refine below_set ?_ GE101.out) | exact HB.out))) : w.heap.size ≤ gb109)); have n5_ := Aside0.mk ((by rw [hg]; exact (below_size (by repeat (first | (with_reducible first | exact HB.out | apply below_alloc | apply pw_below_drewN | apply below_drew1 | refine below_set ?_ GE101.out) | exact HB.out))) : w.heap.size ≤ gb109)); have n6_ := Aside0.mk ((by rw [hg]; exact Nat.ne_of_lt (blk_lt (g := gb101) (o := .cells #[.slice (some ad108) l0_0.length c0_0, .slice A0_1 l0_1.length c0_1] 25 (0, 0)) (by (with_reducible repeat (first | refine blk_drewN ?_ _ | refine blk_drew ?_ | refine blk_alloc ?_ _)); exact BK101.out)) : gb101 ≠ gb109)); have n7_ := Aside0.mk ((by rw [hg]; exact Nat.ne_of_gt (blk_lt (g := gb101) (o := .cells #[.slice (some ad108) l0_0.length c0_0, .slice A0_1 l0_1.length c0_1] 25 (0, 0)) (by (with_reducible repeat (first | refine blk_drewN ?_ _ | refine blk_drew ?_ | refine blk_alloc ?_ _)); exact BK101.out)) : gb109 ≠ gb101)); clear HO_3; clear BK101; clear HB; have HO_3 := n0_; have BK101 := n1_; have HB := n2_; have BK109 := n3_; have GW109 := n4_; have GE109 := n5_; have NB101_109 := n6_; have NB109_101 := n7_; clear n0_ n1_ n2_ n3_ n4_ n5_ n6_ n7_; clear hb hbox hg; have hnb51 := NB109_101.out; have hnc51 := NB101_109.out; have hcz52_0 : w50.cell? ⟨gb109, 0, none⟩ = some (.slice none 0 0) := (blk_cell BK109.out 0).trans rfl; have hcz52_1 : w50.cell? ⟨gb109, 1, none⟩ = some (.slice none 0 0) := (blk_cell BK109.out 1).trans rfl; have hcz52_2 : w50.cell? ⟨gb109, 2, none⟩ = some (.slice none 0 0) := (blk_cell BK109.out 2).trans rfl; have hcz52_3 : w50.cell? ⟨gb109, 3, none⟩ = some (.slice none 0 0) := (blk_cell BK109.out 3).trans rfl; have hcz52_4 : w50.cell? ⟨gb109, 4, none⟩ = some (.string (⟨#[]⟩ : ByteArray)) := (blk_cell BK109.out 4).trans rfl; have hcz52_5 : w50.cell? ⟨gb109, 5, none⟩ = some (.string (⟨#[]⟩ : ByteArray)) := (blk_cell BK109.out 5).trans rfl; have hfz52_0 := blk_frozen BK109.out 0; have hfz52_1 := blk_frozen BK109.out 1; have hfz52_2 := blk_frozen BK109.out 2; have hfz52_3 := blk_frozen BK109.out 3; have hfz52_4 := blk_frozen BK109.out 4; have hfz52_5 := blk_frozen BK109.out 5))
                                      have n0_ : Aside0 (Kd.R Kd.string 9 ((((((w50.setCell ⟨gb109, 0, none⟩ (.slice A108_0 ((rd_T42 l0_0 x4_2).f0).length c108_0)).setCell ⟨gb109, 1, none⟩ (.slice A108_1 ((rd_T42 l0_0 x4_2).f1).length c108_1)).setCell ⟨gb109, 2, none⟩ (.slice A108_2 ((rd_T42 l0_0 x4_2).f2).length c108_2)).setCell ⟨gb109, 3, none⟩ (.slice A108_3 ((rd_T42 l0_0 x4_2).f3).length c108_3)).setCell ⟨gb109, 4, none⟩ (.string ((rd_T42 l0_0 x4_2).f4))).setCell ⟨gb109, 5, none⟩ (.string ((rd_T42 l0_0 x4_2).f5))) w.heap.size (fun _ => True) u3 x3_2) := ⟨by (with_reducible repeat (first | apply Kd.R_alloc | apply Kd.R_drewN | apply Kd.R_drew)); exact Kd.R_mono (Kd.R_far (p := ⟨gb109, 5, none⟩) (Kd.R_far (p := ⟨gb109, 4, none⟩) (Kd.R_far (p := ⟨gb109, 3, none⟩) (Kd.R_far (p := ⟨gb109, 2, none⟩) (Kd.R_far (p := ⟨gb109, 1, none⟩) (Kd.R_far (p := ⟨gb109, 0, none⟩) (Kd.R_types HO_3.out BK109.out (by decide)) (fun _ hk => hk.2) (.slice A108_0 ((rd_T42 l0_0 x4_2).f0).length c108_0)) (fun _ hk => hk.2) (.slice A108_1 ((rd_T42 l0_0 x4_2).f1).length c108_1)) (fun _ hk => hk.2) (.slice A108_2 ((rd_T42 l0_0 x4_2).f2).length c108_2)) (fun _ hk => hk.2) (.slice A108_3 ((rd_T42 l0_0 x4_2).f3).length c108_3)) (fun _ hk => hk.2) (.string ((rd_T42 l0_0 x4_2).f4))) (fun _ hk => hk.2) (.string ((rd_T42 l0_0 x4_2).f5))) (fun _ hk => trivial)⟩
                                      have n1_ : Aside0 (((((((w50.setCell ⟨gb109, 0, none⟩ (.slice A108_0 ((rd_T42 l0_0 x4_2).f0).length c108_0)).setCell ⟨gb109, 1, none⟩ (.slice A108_1 ((rd_T42 l0_0 x4_2).f1).length c108_1)).setCell ⟨gb109, 2, none⟩ (.slice A108_2 ((rd_T42 l0_0 x4_2).f2).length c108_2)).setCell ⟨gb109, 3, none⟩ (.slice A108_3 ((rd_T42 l0_0 x4_2).f3).length c108_3)).setCell ⟨gb109, 4, none⟩ (.string ((rd_T42 l0_0 x4_2).f4))).setCell ⟨gb109, 5, none⟩ (.string ((rd_T42 l0_0 x4_2).f5))).heap[gb101]? = some (.cells #[.slice (some ad108) l0_0.length c0_0, .slice A0_1 l0_1.length c0_1] 25 (0, 0))) := ⟨by (with_reducible repeat (first | refine blk_drewN ?_ _ | refine blk_drew ?_ | refine blk_alloc ?_ _)); refine blk_far ?_ NB101_109.out _; (with_reducible repeat (first | refine blk_drewN ?_ _ | refine blk_drew ?_ | refine blk_alloc ?_ _)); refine blk_far ?_ NB101_109.out _; (with_reducible repeat (first | refine blk_drewN ?_ _ | refine blk_drew ?_ | refine blk_alloc ?_ _)); refine blk_far ?_ NB101_109.out _; (with_reducible repeat (first | refine blk_drewN ?_ _ | refine blk_drew ?_ | refine blk_alloc ?_ _)); refine blk_far ?_ NB101_109.out _; (with_reducible repeat (first | refine blk_drewN ?_ _ | refine blk_drew ?_ | refine blk_alloc ?_ _)); refine blk_far ?_ NB101_109.out _; (with_reducible repeat (first | refine blk_drewN ?_ _ | refine blk_drew ?_ | refine blk_alloc ?_ _)); refine blk_far ?_ NB101_109.out _; (with_reducible repeat (first | refine blk_drewN ?_ _ | refine blk_drew ?_ | refine blk_alloc ?_ _)); exact BK101.out⟩
                                      have n2_ : Aside0 (((((((w50.setCell ⟨gb109, 0, none⟩ (.slice A108_0 ((rd_T42 l0_0 x4_2).f0).length c108_0)).setCell ⟨gb109, 1, none⟩ (.slice A108_1 ((rd_T42 l0_0 x4_2).f1).length c108_1)).setCell ⟨gb109, 2, none⟩ (.slice A108_2 ((rd_T42 l0_0 x4_2).f2).length c108_2)).setCell ⟨gb109, 3, none⟩ (.slice A108_3 ((rd_T42 l0_0 x4_2).f3).length c108_3)).setCell ⟨gb109, 4, none⟩ (.string ((rd_T42 l0_0 x4_2).f4))).setCell ⟨gb109, 5, none⟩ (.string ((rd_T42 l0_0 x4_2).f5))).heap[gb109]? = some (.cells #[.slice A108_0 ((rd_T42 l0_0 x4_2).f0).length c108_0, .slice A108_1 ((rd_T42 l0_0 x4_2).f1).length c108_1, .slice A108_2 ((rd_T42 l0_0 x4_2).f2).length c108_2, .slice A108_3 ((rd_T42 l0_0 x4_2).f3).length c108_3, .string ((rd_T42 l0_0 x4_2).f4), .string ((rd_T42 l0_0 x4_2).f5)] 42 (0, 0))) := ⟨by (with_reducible repeat (first | refine blk_drewN ?_ _ | refine blk_drew ?_ | refine blk_alloc ?_ _)); refine blk_put (cs := #[.slice A108_0 ((rd_T42 l0_0 x4_2).f0).length c108_0, .slice A108_1 ((rd_T42 l0_0 x4_2).f1).length c108_1, .slice A108_2 ((rd_T42 l0_0 x4_2).f2).length c108_2, .slice A108_3 ((rd_T42 l0_0 x4_2).f3).length c108_3, .string ((rd_T42 l0_0 x4_2).f4), .string (⟨#[]⟩ : ByteArray)]) ?_ 5 _ rfl; (with_reducible repeat (first | refine blk_drewN ?_ _ | refine blk_drew ?_ | refine blk_alloc ?_ _)); refine blk_put (cs := #[.slice A108_0 ((rd_T42 l0_0 x4_2).f0).length c108_0, .slice A108_1 ((rd_T42 l0_0 x4_2).f1).length c108_1, .slice A108_2 ((rd_T42 l0_0 x4_2).f2).length c108_2, .slice A108_3 ((rd_T42 l0_0 x4_2).f3).length c108_3, .string (⟨#[]⟩ : ByteArray), .string (⟨#[]⟩ : ByteArray)]) ?_ 4 _ rfl; (with_reducible repeat (first | refine blk_drewN ?_ _ | refine blk_drew ?_ | refine blk_alloc ?_ _)); refine blk_put (cs := #[.slice A108_0 ((rd_T42 l0_0 x4_2).f0).length c108_0, .slice A108_1 ((rd_T42 l0_0 x4_2).f1).length c108_1, .slice A108_2 ((rd_T42 l0_0 x4_2).f2).length c108_2, .slice none 0 0, .string (⟨#[]⟩ : ByteArray), .string (⟨#[]⟩ : ByteArray)]) ?_ 3 _ rfl; (with_reducible repeat (first | refine blk_drewN ?_ _ | refine blk_drew ?_ | refine blk_alloc ?_ _)); refine blk_put (cs := #[.slice A108_0 ((rd_T42 l0_0 x4_2).f0).length c108_0, .slice A108_1 ((rd_T42 l0_0 x4_2).f1).length c108_1, .slice none 0 0, .slice none 0 0, .string (⟨#[]⟩ : ByteArray), .string (⟨#[]⟩ : ByteArray)]) ?_ 2 _ rfl; (with_reducible repeat (first | refine blk_drewN ?_ _ | refine blk_drew ?_ | refine blk_alloc ?_ _)); refine blk_put (cs := #[.slice A108_0 ((rd_T42 l0_0 x4_2).f0).length c108_0, .slice none 0 0, .slice none 0 0, .slice none 0 0, .string (⟨#[]⟩ : ByteArray), .string (⟨#[]⟩ : ByteArray)]) ?_ 1 _ rfl; (with_reducible repeat (first | refine blk_drewN ?_ _ | refine blk_drew ?_ | refine blk_alloc ?_ _)); refine blk_put (cs := #[.slice none 0 0, .slice none 0 0, .slice none 0 0, .slice none 0 0, .string (⟨#[]⟩ : ByteArray), .string (⟨#[]⟩ : ByteArray)]) ?_ 0 _ rfl; (with_reducible repeat (first | refine blk_drewN ?_ _ | refine blk_drew ?_ | refine blk_alloc ?_ _)); exact BK109.out⟩
                                      have n3_ : Aside0 (Below w.heap.size w ((((((w50.setCell ⟨gb109, 0, none⟩ (.slice A108_0 ((rd_T42 l0_0 x4_2).f0).length c108_0)).setCell ⟨gb109, 1, none⟩ (.slice A108_1 ((rd_T42 l0_0 x4_2).f1).length c108_1)).setCell ⟨gb109, 2, none⟩ (.slice A108_2 ((rd_T42 l0_0 x4_2).f2).length c108_2)).setCell ⟨gb109, 3, none⟩ (.slice A108_3 ((rd_T42 l0_0 x4_2).f3).length c108_3)).setCell ⟨gb109, 4, none⟩ (.string ((rd_T42 l0_0 x4_2).f4))).setCell ⟨gb109, 5, none⟩ (.string ((rd_T42 l0_0 x4_2).f5)))) := ⟨by repeat (first | (with_reducible first | exact HB.out | apply below_alloc | apply pw_below_drewN | apply below_drew1 | refine below_set ?_ GE101.out | refine below_set ?_ GE109.out) | exact HB.out)⟩
                                      (try clear HO_3)
                                      (try clear BK101)
                                      (try clear BK109)
                                      (try clear HB)
                                      generalize ((((((w50.setCell ⟨gb109, 0, none⟩ (.slice A108_0 ((rd_T42 l0_0 x4_2).f0).length c108_0)).setCell ⟨gb109, 1, none⟩ (.slice A108_1 ((rd_T42 l0_0 x4_2).f1).length c108_1)).setCell ⟨gb109, 2, none⟩ (.slice A108_2 ((rd_T42 l0_0 x4_2).f2).length c108_2)).setCell ⟨gb109, 3, none⟩ (.slice A108_3 ((rd_T42 l0_0 x4_2).f3).length c108_3)).setCell ⟨gb109, 4, none⟩ (.string ((rd_T42 l0_0 x4_2).f4))).setCell ⟨gb109, 5, none⟩ (.string ((rd_T42 l0_0 x4_2).f5))) = w53 at n0_ n1_ n2_ n3_ ⊢
                                      have HO_3 := n0_
                                      have BK101 := n1_
                                      have BK109 := n2_
                                      have HB := n3_
                                      clear n0_ n1_ n2_ n3_
                                      have n0_ := Aside0.mk (Kd.R_drew HO_3.out)
                                      have n1_ := Aside0.mk (blk_drew BK101.out)
                                      have n2_ := Aside0.mk (blk_drew BK109.out)
                                      have n3_ := Aside0.mk (below_drew1 HB.out)
                                      clear HO_3
                                      clear BK101
                                      clear BK109
                                      clear HB
                                      have HO_3 := n0_
                                      have BK101 := n1_
                                      have BK109 := n2_
                                      have HB := n3_
                                      clear n0_ n1_ n2_ n3_
                                      refine start_ (n := 14) (S := fun w' => w'.cell? ⟨gb109, 0, none⟩ = some (.slice A108_0 ((rd_T42 l0_0 x4_2).f0).length c108_0) ∧ w'.cell? ⟨gb109, 1, none⟩ = some (.slice A108_1 ((rd_T42 l0_0 x4_2).f1).length c108_1) ∧ w'.cell? ⟨gb109, 2, none⟩ = some (.slice A108_2 ((rd_T42 l0_0 x4_2).f2).length c108_2) ∧ w'.cell? ⟨gb109, 3, none⟩ = some (.slice A108_3 ((rd_T42 l0_0 x4_2).f3).length c108_3) ∧ w'.cell? ⟨gb109, 4, none⟩ = some (.string ((rd_T42 l0_0 x4_2).f4)) ∧ w'.cell? ⟨gb109, 5, none⟩ = some (.string ((rd_T42 l0_0 x4_2).f5))) (ds := []) #[false, false, false, false, false, false, false, false, false, false, false, false, false, false] (by kernel_rfl) rfl rfl ⟨(blk_cell BK109.out 0).trans rfl, (blk_cell BK109.out 1).trans rfl, (blk_cell BK109.out 2).trans rfl, (blk_cell BK109.out 3).trans rfl, (blk_cell BK109.out 4).trans rfl, (blk_cell BK109.out 5).trans rfl⟩ (fun hHeld => ?_); refine with_tabW bellowslaw12_few.tab10 bellowslaw12_few.bits10 (fun HT_ HW_ => ?_)
                                      generalize w53.drew = w54 at HO_3 BK101 BK109 HB hHeld ⊢
                                      refine pure_ (i := 0) (N := some 67) (v := ?_) (a' := ?_) #[true, false, false, false, false, false, false, false, false, false, false, false, false, false] rfl rfl (any_of HT_.out (by kernel_rfl)) (fun _ _ _ h => h) (Or.inl ⟨by rfl, ?_⟩) ?_ ?_
                                      rotate_left
                                      · intro w'
                                        go_simp
                                        with_reducible rfl
                                      rotate_left
                                      · simp only [Act.put, pA,pB,pC, i64_w, i32_w]
                                        rfl
                                      refine pure_ (i := 1) (N := some 68) (v := ?_) (a' := ?_) #[true, true, false, false, false, false, false, false, false, false, false, false, false, false] rfl rfl (any_of HT_.out (by kernel_rfl)) (fun _ _ _ h => h) (Or.inl ⟨by rfl, ?_⟩) ?_ ?_
                                      rotate_left
                                      · intro w'
                                        go_simp
                                        with_reducible rfl
                                      rotate_left
                                      · simp only [Act.put, pA,pB,pC, i64_w, i32_w]
                                        rfl
                                      refine pure_ (i := 4) (N := some 71) (v := ?_) (a' := ?_) #[true, true, false, false, true, false, false, false, false, false, false, false, false, false] rfl rfl (any_of HT_.out (by kernel_rfl)) (fun _ _ _ h => h) (Or.inl ⟨by rfl, ?_⟩) ?_ ?_
                                      rotate_left
                                      · intro w'
                                        go_simp
                                        with_reducible rfl
                                      rotate_left
                                      · simp only [Act.put, pA,pB,pC, i64_w, i32_w]
                                        rfl
                                      refine pure_ (i := 7) (N := some 74) (v := ?_) (a' := ?_) #[true, true, false, false, true, false, false, true, false, false, false, false, false, false] rfl rfl (any_of HT_.out (by kernel_rfl)) (fun _ _ _ h => h) (Or.inl ⟨by rfl, ?_⟩) ?_ ?_
                                      rotate_left
                                      · intro w'
                                        go_simp
                                        with_reducible rfl
                                      rotate_left
                                      · simp only [Act.put, pA,pB,pC, i64_w, i32_w]
                                        rfl
                                      refine pure_ (i := 10) (N := some 77) (v := ?_) (a' := ?_) #[true, true, false, false, true, false, false, true, false, false, true, false, false, false] rfl rfl (any_of HT_.out (by kernel_rfl)) (fun _ _ _ h => h) (Or.inl ⟨by rfl, ?_⟩) ?_ ?_
                                      rotate_left
                                      · intro w'
                                        go_simp
                                        with_reducible rfl
                                      rotate_left
                                      · simp only [Act.put, pA,pB,pC, i64_w, i32_w]
                                        rfl
                                      refine take_ (i := 2) (N := some 69) (v := ?_) (a' := ?_) #[true, true, true, false, true, false, false, true, false, false, true, false, false, false] rfl rfl (take_ofW HT_.out HW_.out (by kernel_rfl)) (fun _ _ _ h => h) (Or.inl ⟨by rfl, ?_⟩) hHeld ?_ ?_
                                      rotate_left
                                      · rintro w' ⟨s0, s1, s2, s3, s4, s5⟩
                                        go_simp
                                        with_reducible rfl
                                      rotate_left
                                      · simp only [Act.put, pA,pB,pC, i64_w, i32_w]
                                        rfl
                                      refine take_ (i := 5) (N := some 72) (v := ?_) (a' := ?_) #[true, true, true, false, true, true, false, true, false, false, true, false, false, false] rfl rfl (take_ofW HT_.out HW_.out (by kernel_rfl)) (fun _ _ _ h => h) (Or.inl ⟨by rfl, ?_⟩) hHeld ?_ ?_
                                      rotate_left
                                      · rintro w' ⟨s0, s1, s2, s3, s4, s5⟩
                                        go_simp
                                        with_reducible rfl
                                      rotate_left
                                      · simp only [Act.put, pA,pB,pC, i64_w, i32_w]
                                        rfl
                                      refine take_ (i := 8) (N := some 75) (v := ?_) (a' := ?_) #[true, true, true, false, true, true, false, true, true, false, true, false, false, false] rfl rfl (take_ofW HT_.out HW_.out (by kernel_rfl)) (fun _ _ _ h => h) (Or.inl ⟨by rfl, ?_⟩) hHeld ?_ ?_
                                      rotate_left
                                      · rintro w' ⟨s0, s1, s2, s3, s4, s5⟩
                                        go_simp
                                        with_reducible rfl
                                      rotate_left
                                      · simp only [Act.put, pA,pB,pC, i64_w, i32_w]
                                        rfl
                                      refine take_ (i := 11) (N := some 78) (v := ?_) (a' := ?_) #[true, true, true, false, true, true, false, true, true, false, true, true, false, false] rfl rfl (take_ofW HT_.out HW_.out (by kernel_rfl)) (fun _ _ _ h => h) (Or.inl ⟨by rfl, ?_⟩) hHeld ?_ ?_
                                      rotate_left
                                      · rintro w' ⟨s0, s1, s2, s3, s4, s5⟩
                                        go_simp
                                        with_reducible rfl
                                      rotate_left
                                      · simp only [Act.put, pA,pB,pC, i64_w, i32_w]
                                        rfl
                                      refine one_ (i := 3) (N := some 70) #[true, true, true, true, true, true, false, true, true, false, true, true, false, false] rfl rfl (one_of HT_.out (by kernel_rfl)) (by decide) (fun K hK => ?_)
                                      refine Kd.R_append_rows_step Kd.string (w0 := w) w.heap.size (by rfl) (.tmp 67) (.tmp 69) 23 9 (.string ⟨#[]⟩) 16 rfl Tryz.underlying23 info9 rfl (by decide) (by omega) u3 x3_2 ((rd_T42 l0_0 x4_2).f0) _ _ _ (fun _ => True) (fun _ => False) rfl rfl ?aO ?aR (fun _ _ h => h) (fun _ h => h.elim) ?aF ?aB ?aS ?aL ?_
                                      (case aR => repeat (first | exact (Kd.C_below HR108_0.out HB.out) | (with_reducible refine Kd.C_alloc ?_ _) | (with_reducible refine Kd.C_drewN ?_ _) | (with_reducible refine Kd.C_drew ?_)))
                                      (case aB => exact (by repeat (first | (with_reducible first | exact HB.out | apply below_alloc | apply pw_below_drewN | apply below_drew1 | refine below_set ?_ GE101.out | refine below_set ?_ GE109.out) | exact HB.out)))
                                      (case aF => exact (fun _ _ => trivial))
                                      (case aO => exact (by (with_reducible repeat (first | apply Kd.R_alloc | apply Kd.R_drewN | apply Kd.R_drew)); exact HO_3.out))
                                      (case aS => exact (below_size (by repeat (first | (with_reducible first | exact HB.out | apply below_alloc | apply pw_below_drewN | apply below_drew1 | refine below_set ?_ GE101.out | refine below_set ?_ GE109.out) | exact HB.out))))
                                      (case aL => have := LMc45.out; omega)
                                      intro v111 w55 ho hb hg hat
                                      rw [← Ny110.out] at ho
                                      have n0_ := Aside0.mk (blk_grown (g := gb101) (o := .cells #[.slice (some ad108) l0_0.length c0_0, .slice A0_1 l0_1.length c0_1] 25 (0, 0)) (by (with_reducible repeat (first | refine blk_drewN ?_ _ | refine blk_drew ?_ | refine blk_alloc ?_ _)); exact BK101.out) hg (Kd.R_ne HO_3.out BK101.out (by decide)))
                                      have n1_ := Aside0.mk (blk_grown (g := gb109) (o := .cells #[.slice A108_0 ((rd_T42 l0_0 x4_2).f0).length c108_0, .slice A108_1 ((rd_T42 l0_0 x4_2).f1).length c108_1, .slice A108_2 ((rd_T42 l0_0 x4_2).f2).length c108_2, .slice A108_3 ((rd_T42 l0_0 x4_2).f3).length c108_3, .string ((rd_T42 l0_0 x4_2).f4), .string ((rd_T42 l0_0 x4_2).f5)] 42 (0, 0)) (by (with_reducible repeat (first | refine blk_drewN ?_ _ | refine blk_drew ?_ | refine blk_alloc ?_ _)); exact BK109.out) hg (Kd.R_ne HO_3.out BK109.out (by decide)))
                                      have n2_ := Aside0.mk (hb)
                                      have n3_ := Aside0.mk (ho)
                                      clear BK101
                                      clear BK109
                                      clear HB
                                      clear HO_3
                                      have BK101 := n0_
                                      have BK109 := n1_
                                      have HB := n2_
                                      have HO112 := n3_
                                      clear n0_ n1_ n2_ n3_
                                      clear ho hb hg hat
                                      refine hK.out _ _ ⟨(blk_cell BK109.out 0).trans rfl, (blk_cell BK109.out 1).trans rfl, (blk_cell BK109.out 2).trans rfl, (blk_cell BK109.out 3).trans rfl, (blk_cell BK109.out 4).trans rfl, (blk_cell BK109.out 5).trans rfl⟩ (fun hHeld => ?_)
                                      clear hK K
                                      refine norm_ (a' := ?_) ?_ ?_
                                      rotate_left
                                      · show Act.put _ (some 70) _ = _
                                        simp only [Act.put, pA,pB,pC, i64_w, i32_w]
                                        rfl
                                      refine one_ (i := 6) (N := some 73) #[true, true, true, true, true, true, true, true, true, false, true, true, false, false] rfl rfl (one_of HT_.out (by kernel_rfl)) (by decide) (fun K hK => ?_)
                                      refine Kd.R_append_rows_step Kd.string (w0 := w) w.heap.size (by rfl) (.tmp 70) (.tmp 72) 23 9 (.string ⟨#[]⟩) 16 rfl Tryz.underlying23 info9 rfl (by decide) (by omega) v111 y110 ((rd_T42 l0_0 x4_2).f1) _ _ _ (fun _ => True) (fun _ => False) rfl rfl ?aO ?aR (fun _ _ h => h) (fun _ h => h.elim) ?aF ?aB ?aS ?aL ?_
                                      (case aR => repeat (first | exact (Kd.C_below HR108_1.out HB.out) | (with_reducible refine Kd.C_alloc ?_ _) | (with_reducible refine Kd.C_drewN ?_ _) | (with_reducible refine Kd.C_drew ?_)))
                                      (case aB => exact (by repeat (first | (with_reducible first | exact HB.out | apply below_alloc | apply pw_below_drewN | apply below_drew1 | refine below_set ?_ GE101.out | refine below_set ?_ GE109.out) | exact HB.out)))
                                      (case aF => exact (fun _ _ => trivial))
                                      (case aO => exact (by (with_reducible repeat (first | apply Kd.R_alloc | apply Kd.R_drewN | apply Kd.R_drew)); exact HO112.out))
                                      (case aS => exact (below_size (by repeat (first | (with_reducible first | exact HB.out | apply below_alloc | apply pw_below_drewN | apply below_drew1 | refine below_set ?_ GE101.out | refine below_set ?_ GE109.out) | exact HB.out))))
                                      (case aL => have := LMc46.out; omega)
                                      intro v114 w56 ho hb hg hat
                                      rw [← Ny113.out] at ho
                                      have n0_ := Aside0.mk (blk_grown (g := gb101) (o := .cells #[.slice (some ad108) l0_0.length c0_0, .slice A0_1 l0_1.length c0_1] 25 (0, 0)) (by (with_reducible repeat (first | refine blk_drewN ?_ _ | refine blk_drew ?_ | refine blk_alloc ?_ _)); exact BK101.out) hg (Kd.R_ne HO112.out BK101.out (by decide)))
                                      have n1_ := Aside0.mk (blk_grown (g := gb109) (o := .cells #[.slice A108_0 ((rd_T42 l0_0 x4_2).f0).length c108_0, .slice A108_1 ((rd_T42 l0_0 x4_2).f1).length c108_1, .slice A108_2 ((rd_T42 l0_0 x4_2).f2).length c108_2, .slice A108_3 ((rd_T42 l0_0 x4_2).f3).length c108_3, .string ((rd_T42 l0_0 x4_2).f4), .string ((rd_T42 l0_0 x4_2).f5)] 42 (0, 0)) (by (with_reducible repeat (first | refine blk_drewN ?_ _ | refine blk_drew ?_ | refine blk_alloc ?_ _)); exact BK109.out) hg (Kd.R_ne HO112.out BK109.out (by decide)))
                                      have n2_ := Aside0.mk (hb)
                                      have n3_ := Aside0.mk (ho)
                                      clear BK101
                                      clear BK109
                                      clear HB
                                      clear HO112
                                      have BK101 := n0_
                                      have BK109 := n1_
                                      have HB := n2_
                                      have HO115 := n3_
                                      clear n0_ n1_ n2_ n3_
                                      clear ho hb hg hat
                                      refine hK.out _ _ ⟨(blk_cell BK109.out 0).trans rfl, (blk_cell BK109.out 1).trans rfl, (blk_cell BK109.out 2).trans rfl, (blk_cell BK109.out 3).trans rfl, (blk_cell BK109.out 4).trans rfl, (blk_cell BK109.out 5).trans rfl⟩ (fun hHeld => ?_)
                                      clear hK K
                                      refine norm_ (a' := ?_) ?_ ?_
                                      rotate_left
                                      · show Act.put _ (some 73) _ = _
                                        simp only [Act.put, pA,pB,pC, i64_w, i32_w]
                                        rfl
                                      refine one_ (i := 9) (N := some 76) #[true, true, true, true, true, true, true, true, true, true, true, true, false, false] rfl rfl (one_of HT_.out (by kernel_rfl)) (by decide) (fun K hK => ?_)
                                      refine Kd.R_append_rows_step Kd.string (w0 := w) w.heap.size (by rfl) (.tmp 73) (.tmp 75) 23 9 (.string ⟨#[]⟩) 16 rfl Tryz.underlying23 info9 rfl (by decide) (by omega) v114 y113 ((rd_T42 l0_0 x4_2).f2) _ _ _ (fun _ => True) (fun _ => False) rfl rfl ?aO ?aR (fun _ _ h => h) (fun _ h => h.elim) ?aF ?aB ?aS ?aL ?_
                                      (case aR => repeat (first | exact (Kd.C_below HR108_2.out HB.out) | (with_reducible refine Kd.C_alloc ?_ _) | (with_reducible refine Kd.C_drewN ?_ _) | (with_reducible refine Kd.C_drew ?_)))
                                      (case aB => exact (by repeat (first | (with_reducible first | exact HB.out | apply below_alloc | apply pw_below_drewN | apply below_drew1 | refine below_set ?_ GE101.out | refine below_set ?_ GE109.out) | exact HB.out)))
                                      (case aF => exact (fun _ _ => trivial))
                                      (case aO => exact (by (with_reducible repeat (first | apply Kd.R_alloc | apply Kd.R_drewN | apply Kd.R_drew)); exact HO115.out))
                                      (case aS => exact (below_size (by repeat (first | (with_reducible first | exact HB.out | apply below_alloc | apply pw_below_drewN | apply below_drew1 | refine below_set ?_ GE101.out | refine below_set ?_ GE109.out) | exact HB.out))))
                                      (case aL => have := LMc47.out; omega)
                                      intro v117 w57 ho hb hg hat
                                      rw [← Ny116.out] at ho
                                      have n0_ := Aside0.mk (blk_grown (g := gb101) (o := .cells #[.slice (some ad108) l0_0.length c0_0, .slice A0_1 l0_1.length c0_1] 25 (0, 0)) (by (with_reducible repeat (first | refine blk_drewN ?_ _ | refine blk_drew ?_ | refine blk_alloc ?_ _)); exact BK101.out) hg (Kd.R_ne HO115.out BK101.out (by decide)))
                                      have n1_ := Aside0.mk (blk_grown (g := gb109) (o := .cells #[.slice A108_0 ((rd_T42 l0_0 x4_2).f0).length c108_0, .slice A108_1 ((rd_T42 l0_0 x4_2).f1).length c108_1, .slice A108_2 ((rd_T42 l0_0 x4_2).f2).length c108_2, .slice A108_3 ((rd_T42 l0_0 x4_2).f3).length c108_3, .string ((rd_T42 l0_0 x4_2).f4), .string ((rd_T42 l0_0 x4_2).f5)] 42 (0, 0)) (by (with_reducible repeat (first | refine blk_drewN ?_ _ | refine blk_drew ?_ | refine blk_alloc ?_ _)); exact BK109.out) hg (Kd.R_ne HO115.out BK109.out (by decide)))
                                      have n2_ := Aside0.mk (hb)
                                      have n3_ := Aside0.mk (ho)
                                      clear BK101
                                      clear BK109
                                      clear HB
                                      clear HO115
                                      have BK101 := n0_
                                      have BK109 := n1_
                                      have HB := n2_
                                      have HO118 := n3_
                                      clear n0_ n1_ n2_ n3_
                                      clear ho hb hg hat
                                      refine hK.out _ _ ⟨(blk_cell BK109.out 0).trans rfl, (blk_cell BK109.out 1).trans rfl, (blk_cell BK109.out 2).trans rfl, (blk_cell BK109.out 3).trans rfl, (blk_cell BK109.out 4).trans rfl, (blk_cell BK109.out 5).trans rfl⟩ (fun hHeld => ?_)
                                      clear hK K
                                      refine norm_ (a' := ?_) ?_ ?_
                                      rotate_left
                                      · show Act.put _ (some 76) _ = _
                                        simp only [Act.put, pA,pB,pC, i64_w, i32_w]
                                        rfl
                                      refine one_ (i := 12) (N := some 79) #[true, true, true, true, true, true, true, true, true, true, true, true, true, false] rfl rfl (one_of HT_.out (by kernel_rfl)) (by decide) (fun K hK => ?_)
                                      refine Kd.R_append_rows_step Kd.string (w0 := w) w.heap.size (by rfl) (.tmp 76) (.tmp 78) 23 9 (.string ⟨#[]⟩) 16 rfl Tryz.underlying23 info9 rfl (by decide) (by omega) v117 y116 ((rd_T42 l0_0 x4_2).f3) _ _ _ (fun _ => True) (fun _ => False) rfl rfl ?aO ?aR (fun _ _ h => h) (fun _ h => h.elim) ?aF ?aB ?aS ?aL ?_
                                      (case aR => repeat (first | exact (Kd.C_below HR108_3.out HB.out) | (with_reducible refine Kd.C_alloc ?_ _) | (with_reducible refine Kd.C_drewN ?_ _) | (with_reducible refine Kd.C_drew ?_)))
                                      (case aB => exact (by repeat (first | (with_reducible first | exact HB.out | apply below_alloc | apply pw_below_drewN | apply below_drew1 | refine below_set ?_ GE101.out | refine below_set ?_ GE109.out) | exact HB.out)))
                                      (case aF => exact (fun _ _ => trivial))
                                      (case aO => exact (by (with_reducible repeat (first | apply Kd.R_alloc | apply Kd.R_drewN | apply Kd.R_drew)); exact HO118.out))
                                      (case aS => exact (below_size (by repeat (first | (with_reducible first | exact HB.out | apply below_alloc | apply pw_below_drewN | apply below_drew1 | refine below_set ?_ GE101.out | refine below_set ?_ GE109.out) | exact HB.out))))
                                      (case aL => have := LMc48.out; omega)
                                      intro v120 w58 ho hb hg hat
                                      rw [← Ny119.out] at ho
                                      have n0_ := Aside0.mk (blk_grown (g := gb101) (o := .cells #[.slice (some ad108) l0_0.length c0_0, .slice A0_1 l0_1.length c0_1] 25 (0, 0)) (by (with_reducible repeat (first | refine blk_drewN ?_ _ | refine blk_drew ?_ | refine blk_alloc ?_ _)); exact BK101.out) hg (Kd.R_ne HO118.out BK101.out (by decide)))
                                      have n1_ := Aside0.mk (blk_grown (g := gb109) (o := .cells #[.slice A108_0 ((rd_T42 l0_0 x4_2).f0).length c108_0, .slice A108_1 ((rd_T42 l0_0 x4_2).f1).length c108_1, .slice A108_2 ((rd_T42 l0_0 x4_2).f2).length c108_2, .slice A108_3 ((rd_T42 l0_0 x4_2).f3).length c108_3, .string ((rd_T42 l0_0 x4_2).f4), .string ((rd_T42 l0_0 x4_2).f5)] 42 (0, 0)) (by (with_reducible repeat (first | refine blk_drewN ?_ _ | refine blk_drew ?_ | refine blk_alloc ?_ _)); exact BK109.out) hg (Kd.R_ne HO118.out BK109.out (by decide)))
                                      have n2_ := Aside0.mk (hb)
                                      have n3_ := Aside0.mk (ho)
                                      clear BK101
                                      clear BK109
                                      clear HB
                                      clear HO118
                                      have BK101 := n0_
                                      have BK109 := n1_
                                      have HB := n2_
                                      have HO121 := n3_
                                      clear n0_ n1_ n2_ n3_
                                      clear ho hb hg hat
                                      refine hK.out _ _ ⟨(blk_cell BK109.out 0).trans rfl, (blk_cell BK109.out 1).trans rfl, (blk_cell BK109.out 2).trans rfl, (blk_cell BK109.out 3).trans rfl, (blk_cell BK109.out 4).trans rfl, (blk_cell BK109.out 5).trans rfl⟩ (fun hHeld => ?_)
                                      clear hK K
                                      refine norm_ (a' := ?_) ?_ ?_
                                      rotate_left
                                      · show Act.put _ (some 79) _ = _
                                        simp only [Act.put, pA,pB,pC, i64_w, i32_w]
                                        rfl
                                      refine pure_ (i := 13) (N := some 3) (v := ?_) (a' := ?_) #[true, true, true, true, true, true, true, true, true, true, true, true, true, true] rfl rfl (any_of HT_.out (by kernel_rfl)) (fun _ _ _ h => h) (Or.inl ⟨by rfl, ?_⟩) ?_ ?_
                                      rotate_left
                                      · intro w'
                                        go_simp
                                        with_reducible rfl
                                      rotate_left
                                      · simp only [Act.put, pA,pB,pC, i64_w, i32_w]
                                        rfl
                                      refine done_ (done_of HT_.out (by kernel_rfl)) ?_
                                      try go_wp2
                                      go_roundg k2
                                      case measure => have := HJ1.out; have := HK2.out; omega
                                      case rel => exact ⟨(y119), (wrap64 (x4_2 + 1)), (by first | rfl | (simp; done) | (simp [*]; done)), H', ⟨by have := HJ1.out; have := HK2.out; omega⟩, ⟨by (with_reducible repeat (first | apply Kd.R_alloc | apply Kd.R_drewN | apply Kd.R_drew)); exact HO121.out⟩, ⟨by (with_reducible repeat (first | refine blk_drewN ?_ _ | refine blk_drew ?_ | refine blk_alloc ?_ _)); exact BK101.out⟩, ⟨by repeat (first | (with_reducible first | exact HB.out | apply below_alloc | apply pw_below_drewN | apply below_drew1 | refine below_set ?_ GE101.out | refine below_set ?_ GE109.out) | exact HB.out)⟩⟩
                                    · rw [if_neg c48] at H
                                      exact absurd H (by simp)
                                  · rw [if_neg c47] at H
                                    exact absurd H (by simp)
                                · rw [if_neg c46] at H
                                  exact absurd H (by simp)
                              · rw [if_neg c45] at H
                                exact absurd H (by simp)
                · rw [if_neg c14] at H
                  exact absurd H (by simp)
              · rw [if_neg c13] at H
                have c13b0 : decide (x4_2 < (l0_0.length : Int)) = false := decide_eq_false c13
                clear c13
                have H' := Aside0.mk H
                clear H
                have hcz59_0 : wr.cell? ⟨gb101, 0, none⟩ = some (.slice A0_0 l0_0.length c0_0) := (blk_cell BK101.out 0).trans rfl
                have hcz59_1 : wr.cell? ⟨gb101, 1, none⟩ = some (.slice A0_1 l0_1.length c0_1) := (blk_cell BK101.out 1).trans rfl
                have hfz59_0 := blk_frozen BK101.out 0
                have hfz59_1 := blk_frozen BK101.out 1
                go_wp2
                go_loopg [6] k2 (fun kq v6 w' => ∃ (x6_3 : Int), v6 = .int .i64 x6_3 ∧ Aside0 (bellowslaw12_few.l1 kq x3_2 x6_3 = some r) ∧ Aside0 (kq ≤ k2) ∧ Aside0 (Kd.R Kd.string 9 w' w.heap.size (fun _ => True) u3 x3_2) ∧ Aside0 (w'.heap[gb101]? = some (.cells #[(.slice A0_0 l0_0.length c0_0), (.slice A0_1 l0_1.length c0_1)] 25 (0, 0))) ∧ Aside0 (Below w.heap.size w w'))
                case atStart => exact ⟨(0), (by first | rfl | (simp; done) | (simp [*]; done)), H', ⟨Nat.le_refl _⟩, ⟨by (with_reducible repeat (first | apply Kd.R_alloc | apply Kd.R_drewN | apply Kd.R_drew)); exact HO_3.out⟩, ⟨by (with_reducible repeat (first | refine blk_drewN ?_ _ | refine blk_drew ?_ | refine blk_alloc ?_ _)); exact BK101.out⟩, ⟨by repeat (first | (with_reducible first | exact HB.out | apply below_alloc | apply pw_below_drewN | apply below_drew1 | refine below_set ?_ GE101.out) | exact HB.out)⟩⟩
                case round =>
                  clear H'
                  try clear c1
                  try clear p1
                  try clear q1
                  try clear hx1
                  try clear c2
                  try clear p2
                  try clear c3
                  try clear c4
                  try clear c5
                  try clear p6
                  try clear c8
                  try clear c10
                  try clear p10
                  try clear q10
                  try clear hx10
                  try clear c13
                  try clear c13b0
                  try clear c14
                  try clear c14b0
                  try clear c15
                  try clear c15b0
                  try clear c15b1
                  try clear c18
                  try clear c20
                  try clear c20b0
                  try clear c20b1
                  try clear c23
                  try clear c25
                  try clear c25b0
                  try clear c25b1
                  try clear c28
                  try clear c30
                  try clear c30b0
                  try clear c30b1
                  try clear c33
                  try clear c35
                  try clear c35b0
                  try clear c35b1
                  try clear c38
                  try clear c40
                  try clear c40b0
                  try clear c40b1
                  try clear c43
                  try clear c45
                  try clear c46
                  try clear c47
                  try clear c48
                  try clear c51
                  try clear hcz11_0
                  try clear hcz11_1
                  try clear hcz16_0
                  try clear hcz16_1
                  try clear hcz19_0
                  try clear hcz19_1
                  try clear hcz19_2
                  try clear hcz19_3
                  try clear hcz19_4
                  try clear hcz19_5
                  try clear hcz21_0
                  try clear hcz21_1
                  try clear hcz24_0
                  try clear hcz24_1
                  try clear hcz24_2
                  try clear hcz24_3
                  try clear hcz24_4
                  try clear hcz24_5
                  try clear hcz26_0
                  try clear hcz26_1
                  try clear hcz29_0
                  try clear hcz29_1
                  try clear hcz29_2
                  try clear hcz29_3
                  try clear hcz29_4
                  try clear hcz29_5
                  try clear hcz31_0
                  try clear hcz31_1
                  try clear hcz34_0
                  try clear hcz34_1
                  try clear hcz34_2
                  try clear hcz34_3
                  try clear hcz34_4
                  try clear hcz34_5
                  try clear hcz36_0
                  try clear hcz36_1
                  try clear hcz39_0
                  try clear hcz39_1
                  try clear hcz39_2
                  try clear hcz39_3
                  try clear hcz39_4
                  try clear hcz39_5
                  try clear hcz41_0
                  try clear hcz41_1
                  try clear hcz44_0
                  try clear hcz44_1
                  try clear hcz44_2
                  try clear hcz44_3
                  try clear hcz44_4
                  try clear hcz44_5
                  try clear hcz49_0
                  try clear hcz49_1
                  try clear hcz52_0
                  try clear hcz52_1
                  try clear hcz52_2
                  try clear hcz52_3
                  try clear hcz52_4
                  try clear hcz52_5
                  try clear hcz59_0
                  try clear hcz59_1
                  try clear hcz5_0
                  try clear hcz5_1
                  try clear hcz6_0
                  try clear hcz6_1
                  try clear hfz11_0
                  try clear hfz11_1
                  try clear hfz16_0
                  try clear hfz16_1
                  try clear hfz19_0
                  try clear hfz19_1
                  try clear hfz19_2
                  try clear hfz19_3
                  try clear hfz19_4
                  try clear hfz19_5
                  try clear hfz21_0
                  try clear hfz21_1
                  try clear hfz24_0
                  try clear hfz24_1
                  try clear hfz24_2
                  try clear hfz24_3
                  try clear hfz24_4
                  try clear hfz24_5
                  try clear hfz26_0
                  try clear hfz26_1
                  try clear hfz29_0
                  try clear hfz29_1
                  try clear hfz29_2
                  try clear hfz29_3
                  try clear hfz29_4
                  try clear hfz29_5
                  try clear hfz31_0
                  try clear hfz31_1
                  try clear hfz34_0
                  try clear hfz34_1
                  try clear hfz34_2
                  try clear hfz34_3
                  try clear hfz34_4
                  try clear hfz34_5
                  try clear hfz36_0
                  try clear hfz36_1
                  try clear hfz39_0
                  try clear hfz39_1
                  try clear hfz39_2
                  try clear hfz39_3
                  try clear hfz39_4
                  try clear hfz39_5
                  try clear hfz41_0
                  try clear hfz41_1
                  try clear hfz44_0
                  try clear hfz44_1
                  try clear hfz44_2
                  try clear hfz44_3
                  try clear hfz44_4
                  try clear hfz44_5
                  try clear hfz49_0
                  try clear hfz49_1
                  try clear hfz52_0
                  try clear hfz52_1
                  try clear hfz52_2
                  try clear hfz52_3
                  try clear hfz52_4
                  try clear hfz52_5
                  try clear hfz59_0
                  try clear hfz59_1
                  try clear hfz5_0
                  try clear hfz5_1
                  try clear hfz6_0
                  try clear hfz6_1
                  try clear hx108_0
                  try clear hx108_1
                  try clear hx108_2
                  try clear hx108_3
                  try clear hx108_4
                  try clear hx108_5
                  try clear p108
                  try clear p2
                  try clear q108
                  obtain ⟨x6_3, rfl, HA, HK3, HO_3, BK101, HB⟩ := hrel
                  cases gk with
                  | zero => exact absurd HA.out (by simp [bellowslaw12_few.l1])
                  | succ k3 =>
                    have H := HA.out
                    clear HA
                    simp only [bellowslaw12_few.l1] at H
                    by_cases c60 : x6_3 < (x3_2.length : Int)
                    · rw [if_pos c60] at H
                      have c60b0 : decide (x6_3 < (x3_2.length : Int)) = true := decide_eq_true c60
                      clear c60
                      by_cases c61 : 0 ≤ x6_3
                      · rw [if_pos c61] at H
                        have c61b0 : decide (0 ≤ x6_3) = true := decide_eq_true c61
                        clear c61
                        by_cases c62 : ((rdOf ByteArray.empty x3_2 x6_3).size : Int) > 200
                        · rw [if_pos c62] at H
                          have c62b0 : decide (200 < ((rdOf ByteArray.empty x3_2 x6_3).size : Int)) = true := decide_eq_true c62
                          have c62b1 : decide (200 < (rdOf ByteArray.empty x3_2 x6_3).size) = true := decide_eq_true (by omega)
                          clear c62
                          obtain rfl := Option.some.inj H
                          obtain ⟨Ao63, co63, eo63⟩ := Kd.R_slice HO_3.out
                          subst eo63
                          have p122 : 0 ≤ (x6_3 : Int) := of_decide_eq_true (by first | (with_reducible assumption) | assumption)
                          have q122 : x6_3 < (x3_2.length : Int) := of_decide_eq_true (by first | (with_reducible assumption) | assumption)
                          obtain ⟨ad122, e122, hx122_0⟩ := Kd.at_string (Kd.R_reads' HO_3.out).2.2 x6_3 p122 q122
                          cases e122
                          replace p122 := eq_true p122
                          replace q122 := eq_true q122
                          go_wp2
                          go_ret
                          exact ⟨by first | rfl | (simp [errW_none, errW_some] <;> rfl) | (simp [*, errW_none, errW_some] <;> rfl), by repeat (first | (with_reducible first | exact HB.out | apply below_alloc | apply pw_below_drewN | apply below_drew1 | refine below_set ?_ GE101.out) | exact HB.out)⟩
                        · rw [if_neg c62] at H
                          have c62b0 : decide (200 < ((rdOf ByteArray.empty x3_2 x6_3).size : Int)) = false := decide_eq_false c62
                          have c62b1 : decide (200 < (rdOf ByteArray.empty x3_2 x6_3).size) = false := decide_eq_false (by omega)
                          clear c62
                          have H' := Aside0.mk H
                          clear H
                          obtain ⟨Ao64, co64, eo64⟩ := Kd.R_slice HO_3.out
                          subst eo64
                          have p122 : 0 ≤ (x6_3 : Int) := of_decide_eq_true (by first | (with_reducible assumption) | assumption)
                          have q122 : x6_3 < (x3_2.length : Int) := of_decide_eq_true (by first | (with_reducible assumption) | assumption)
                          obtain ⟨ad122, e122, hx122_0⟩ := Kd.at_string (Kd.R_reads' HO_3.out).2.2 x6_3 p122 q122
                          cases e122
                          replace p122 := eq_true p122
                          replace q122 := eq_true q122
                          go_wp2
                          go_roundg k3
                          case measure => have := HJ1.out; have := HK2.out; have := HK3.out; omega
                          case rel => exact ⟨(wrap64 (x6_3 + 1)), (by first | rfl | (simp; done) | (simp [*]; done)), H', ⟨by have := HJ1.out; have := HK2.out; have := HK3.out; omega⟩, ⟨by (with_reducible repeat (first | apply Kd.R_alloc | apply Kd.R_drewN | apply Kd.R_drew)); exact HO_3.out⟩, ⟨by (with_reducible repeat (first | refine blk_drewN ?_ _ | refine blk_drew ?_ | refine blk_alloc ?_ _)); exact BK101.out⟩, ⟨by repeat (first | (with_reducible first | exact HB.out | apply below_alloc | apply pw_below_drewN | apply below_drew1 | refine below_set ?_ GE101.out) | exact HB.out)⟩⟩
                      · rw [if_neg c61] at H
                        exact absurd H (by simp)
                    · rw [if_neg c60] at H
                      have c60b0 : decide (x6_3 < (x3_2.length : Int)) = false := decide_eq_false c60
                      clear c60
                      obtain rfl := Option.some.inj H
                      obtain ⟨Ao65, co65, eo65⟩ := Kd.R_slice HO_3.out
                      subst eo65
                      go_wp2
                      go_ret
                      exact ⟨by first | rfl | (simp [errW_none, errW_some] <;> rfl) | (simp [*, errW_none, errW_some] <;> rfl), by repeat (first | (with_reducible first | exact HB.out | apply below_alloc | apply pw_below_drewN | apply below_drew1 | refine below_set ?_ GE101.out) | exact HB.out)⟩
        · rw [if_neg c8] at H
          exact absurd H (by simp)
end Go.Proofs.YtbjekebkgidhaaaGreatDoor.P
end
section
namespace Go.Proofs.YtbjekebkgidhaaaGreatDoor.P
open Go.RowKit Go.Proofs.YtbjekebkgidhaaaGreatDoorW.PrintWords Go.Proofs.YtbjekebkgidhaaaGreatDoorW.PrintLast Go.Proofs.YtbjekebkgidhaaaGreatDoorW.PrintMore
attribute [local go_sem] max2_int min2_int max_two min_two max_three min_three max_four min_four
set_option linter.unusedVariables false
set_option linter.unusedSimpArgs false
def bellowslaw12_awake.f  : Option (Bool) := (print_Print.f (([(⟨(([(⟨#[97]⟩ : ByteArray)] : List ByteArray)), (([(⟨#[98]⟩ : ByteArray)] : List ByteArray)), ([] : List ByteArray), ([] : List ByteArray), (⟨#[99]⟩ : ByteArray), (⟨#[]⟩ : ByteArray)⟩ : S47)] : List (S47))) ([] : List ByteArray)).bind fun bt162 => (if bt162.2 = 0 then (some (bt162.1.toList == ([114, 117, 108, 101, 32, 114, 48, 10, 32, 32, 99, 111, 109, 109, 97, 110, 100, 32, 61, 32, 99, 10, 98, 117, 105, 108, 100, 32, 97, 58, 32, 114, 48, 32, 98, 10] : List UInt8))) else (some false))
set_option maxHeartbeats 8000000 in
set_option maxRecDepth 100000 in
theorem bellowslaw12_awake.calls  (r : Bool) (w : World) (h : bellowslaw12_awake.f  = some r) :
    Calls Tryz.prog 8 #[] w fun e w' => e = .returned (.bool r) ∧ Below w.heap.size w w' := by
  have hu47 := Tryz.underlying47
  have hu32 := Tryz.underlying32
  have HB := Aside0.mk (Below.refl w.heap.size w)
  have H : ((print_Print.f (([(⟨(([(⟨#[97]⟩ : ByteArray)] : List ByteArray)), (([(⟨#[98]⟩ : ByteArray)] : List ByteArray)), ([] : List ByteArray), ([] : List ByteArray), (⟨#[99]⟩ : ByteArray), (⟨#[]⟩ : ByteArray)⟩ : S47)] : List (S47))) ([] : List ByteArray)).bind fun bt162 => (if bt162.2 = 0 then (some (bt162.1.toList == ([114, 117, 108, 101, 32, 114, 48, 10, 32, 32, 99, 111, 109, 109, 97, 110, 100, 32, 61, 32, 99, 10, 98, 117, 105, 108, 100, 32, 97, 58, 32, 114, 48, 32, 98, 10] : List UInt8))) else (some false))) = some r := h
  clear h
  obtain ⟨y153, hy153⟩ : ∃ y_ : List ByteArray, y_ = (([(⟨#[97]⟩ : ByteArray)] : List ByteArray)) := ⟨_, rfl⟩
  replace H : ((print_Print.f (([(⟨y153, (([(⟨#[98]⟩ : ByteArray)] : List ByteArray)), ([] : List ByteArray), ([] : List ByteArray), (⟨#[99]⟩ : ByteArray), (⟨#[]⟩ : ByteArray)⟩ : S47)] : List (S47))) ([] : List ByteArray)).bind fun bt162 => (if bt162.2 = 0 then (some (bt162.1.toList == ([114, 117, 108, 101, 32, 114, 48, 10, 32, 32, 99, 111, 109, 109, 97, 110, 100, 32, 61, 32, 99, 10, 98, 117, 105, 108, 100, 32, 97, 58, 32, 114, 48, 32, 98, 10] : List UInt8))) else (some false))) = some r := by first | (rw [hy153]; with_reducible exact H) | (have H2_ := (Option.bind_some _ _).symm.trans H; rw [hy153]; with_reducible exact H2_) | (have H2_ := (Option.bind_some _ _).symm.trans H; with_reducible exact H2_) | with_reducible exact H | (rw [hy153]; exact H) | exact H
  have Ny153 := Aside0.mk hy153
  clear hy153
  obtain ⟨y156, hy156⟩ : ∃ y_ : List ByteArray, y_ = (([(⟨#[98]⟩ : ByteArray)] : List ByteArray)) := ⟨_, rfl⟩
  replace H : ((print_Print.f (([(⟨y153, y156, ([] : List ByteArray), ([] : List ByteArray), (⟨#[99]⟩ : ByteArray), (⟨#[]⟩ : ByteArray)⟩ : S47)] : List (S47))) ([] : List ByteArray)).bind fun bt162 => (if bt162.2 = 0 then (some (bt162.1.toList == ([114, 117, 108, 101, 32, 114, 48, 10, 32, 32, 99, 111, 109, 109, 97, 110, 100, 32, 61, 32, 99, 10, 98, 117, 105, 108, 100, 32, 97, 58, 32, 114, 48, 32, 98, 10] : List UInt8))) else (some false))) = some r := by first | (rw [hy156]; with_reducible exact H) | (have H2_ := (Option.bind_some _ _).symm.trans H; rw [hy156]; with_reducible exact H2_) | (have H2_ := (Option.bind_some _ _).symm.trans H; with_reducible exact H2_) | with_reducible exact H | (rw [hy156]; exact H) | exact H
  have Ny156 := Aside0.mk hy156
  clear hy156
  obtain ⟨y159, hy159⟩ : ∃ y_ : List (S47), y_ = (([(⟨y153, y156, ([] : List ByteArray), ([] : List ByteArray), (⟨#[99]⟩ : ByteArray), (⟨#[]⟩ : ByteArray)⟩ : S47)] : List (S47))) := ⟨_, rfl⟩
  replace H : ((print_Print.f y159 ([] : List ByteArray)).bind fun bt162 => (if bt162.2 = 0 then (some (bt162.1.toList == ([114, 117, 108, 101, 32, 114, 48, 10, 32, 32, 99, 111, 109, 109, 97, 110, 100, 32, 61, 32, 99, 10, 98, 117, 105, 108, 100, 32, 97, 58, 32, 114, 48, 32, 98, 10] : List UInt8))) else (some false))) = some r := by first | (rw [hy159]; with_reducible exact H) | (have H2_ := (Option.bind_some _ _).symm.trans H; rw [hy159]; with_reducible exact H2_) | (have H2_ := (Option.bind_some _ _).symm.trans H; with_reducible exact H2_) | with_reducible exact H | (rw [hy159]; exact H) | exact H
  have Ny159 := Aside0.mk hy159
  clear hy159
  replace H := Option.bind_eq_some_iff.mp H
  obtain ⟨⟨t162, t163⟩, A10, H⟩ := H
  replace H : (if t163 = 0 then (some (t162.toList == ([114, 117, 108, 101, 32, 114, 48, 10, 32, 32, 99, 111, 109, 109, 97, 110, 100, 32, 61, 32, 99, 10, 98, 117, 105, 108, 100, 32, 97, 58, 32, 114, 48, 32, 98, 10] : List UInt8))) else (some false)) = some r := H
  have A1 := Aside0.mk A10
  clear A10
  by_cases c2 : t163 = 0
  · rw [if_pos c2] at H
    have c2b0 : (t163 == 0) = true := beq_iff_eq.mpr c2
    have c2b1 : (t163 != 0) = false := bne_eq_false_iff_eq.mpr c2
    clear c2
    obtain rfl := Option.some.inj H
    go_enter Tryz.func8, Tryz.ntmps8
    go_wp2_with (first | ((with_reducible refine gate_dst (N := 4) rfl ?_); refine Kd.R_lit Kd.string _ 9 ?hg (N := 4) ?hd (xs := ([(⟨#[97]⟩ : ByteArray)] : List ByteArray)) (inner := [.string (⟨#[97]⟩ : ByteArray)]) (ok := fun _ => True) (okp := fun _ => True) ?hr ?hp (fun _ hk => hk) trivial (Below.refl _ _) (Nat.le_refl _) (by simp) ?_; (case hd => rfl); (case hg => rfl); (case hr => first | (go_simp; done) | (go_simp; rfl)); (case hp => exact (Reps.one (show Kd.M Kd.string _ _ _ (⟨#[97]⟩ : ByteArray) [.string (⟨#[97]⟩ : ByteArray)] from rfl) (Reps.none _ _))); intro v154 w3 ho4 hb hg_ hnew_; clear hg_ hnew_; (first | rw [← Ny153.out] at ho4 | (simp only [Int.reduceToNat] at ho4; rw [← Ny153.out] at ho4)); have n0_ := Aside0.mk (Kd.R_lower ho4 (below_size (by repeat (first | (with_reducible first | exact HB.out | apply below_alloc | apply pw_below_drewN | apply below_drew1) | exact HB.out)))); have n1_ := Aside0.mk (below_step (by repeat (first | (with_reducible first | exact HB.out | apply below_alloc | apply pw_below_drewN | apply below_drew1) | exact HB.out)) hb); clear HB; have HO155 := n0_; have HB := n1_; clear n0_ n1_; clear hb ho4) | ((with_reducible refine gate_dst (N := 5) rfl ?_); refine Kd.R_lit Kd.string _ 9 ?hg (N := 5) ?hd (xs := ([(⟨#[98]⟩ : ByteArray)] : List ByteArray)) (inner := [.string (⟨#[98]⟩ : ByteArray)]) (ok := fun _ => True) (okp := fun _ => True) ?hr ?hp (fun _ hk => hk) trivial (Below.refl _ _) (Nat.le_refl _) (by simp) ?_; (case hd => rfl); (case hg => rfl); (case hr => first | (go_simp; done) | (go_simp; rfl)); (case hp => exact (Reps.one (show Kd.M Kd.string _ _ _ (⟨#[98]⟩ : ByteArray) [.string (⟨#[98]⟩ : ByteArray)] from rfl) (Reps.none _ _))); intro v157 w5 ho6 hb hg_ hnew_; clear hg_ hnew_; (first | rw [← Ny156.out] at ho6 | (simp only [Int.reduceToNat] at ho6; rw [← Ny156.out] at ho6)); have n0_ := Aside0.mk (Kd.R_elder' (by (with_reducible repeat (first | apply Kd.R_alloc | apply Kd.R_drewN | apply Kd.R_drew)); exact HO155.out) (Kd.R_base ho6) hb); have n1_ := Aside0.mk (Kd.R_lower (Kd.R_new' ho6 (Kd.R_lt (by (with_reducible repeat (first | apply Kd.R_alloc | apply Kd.R_drewN | apply Kd.R_drew)); exact HO155.out))) (below_size (by repeat (first | (with_reducible first | exact HB.out | apply below_alloc | apply pw_below_drewN | apply below_drew1) | exact HB.out)))); have n2_ := Aside0.mk (below_step (by repeat (first | (with_reducible first | exact HB.out | apply below_alloc | apply pw_below_drewN | apply below_drew1) | exact HB.out)) hb); clear HO155; clear HB; have HO155 := n0_; have HO158 := n1_; have HB := n2_; clear n0_ n1_ n2_; clear hb ho6; obtain ⟨Ao7, co7, eo7⟩ := Kd.R_slice HO158.out; subst eo7; obtain ⟨Ao8, co8, eo8⟩ := Kd.R_slice HO155.out; subst eo8) | ((with_reducible refine gate_dst (N := 7) rfl ?_); refine Kd.N_lit k47 _ 47 ?hg (N' := 7) ?hd (xs := ([(⟨y153, y156, ([] : List ByteArray), ([] : List ByteArray), (⟨#[99]⟩ : ByteArray), (⟨#[]⟩ : ByteArray)⟩ : S47)] : List (S47))) (inner := [.slice Ao8 y153.length co8, .slice Ao7 y156.length co7, .slice none 0 0, .slice none 0 0, .string (⟨#[99]⟩ : ByteArray), .string (⟨#[]⟩ : ByteArray)]) (ok := (fun _ => True)) (okp := (fun _ => True)) ?hr ?hp (fun _ hk => hk) ((show ∀ k_, w5.heap.size ≤ k_ → (fun _ => True) k_ from fun k_ hk => trivial) _ (Nat.le_refl _)) (Below.refl _ _) (Nat.le_refl _) (by simp) ?_; (case hd => rfl); (case hg => rfl); (case hr => first | (go_simp; done) | (go_simp; rfl)); (case hp => exact (Reps.c6 (show Kd.FK k47 _ _ (⟨y153, y156, ([] : List ByteArray), ([] : List ByteArray), (⟨#[99]⟩ : ByteArray), (⟨#[]⟩ : ByteArray)⟩ : S47) [.slice Ao8 y153.length co8, .slice Ao7 y156.length co7, .slice none 0 0, .slice none 0 0, .string (⟨#[99]⟩ : ByteArray), .string (⟨#[]⟩ : ByteArray)] from (k47_mkF _ _ (⟨y153, y156, ([] : List ByteArray), ([] : List ByteArray), (⟨#[99]⟩ : ByteArray), (⟨#[]⟩ : ByteArray)⟩ : S47) (Kd.R_reads' (Kd.R_mono (ok' := (fun _ => True)) (HO155.out) (fun k_ hk => trivial))).2.1 (Kd.R_F (Kd.R_mono (ok' := (fun _ => True)) (HO155.out) (fun k_ hk => trivial))) (Kd.R_reads' (Kd.R_mono (ok' := (fun _ => True)) (HO158.out) (fun k_ hk => trivial))).2.1 (Kd.R_F (Kd.R_mono (ok' := (fun _ => True)) (HO158.out) (fun k_ hk => trivial))) (Nat.le_refl _) (Kd.F_nil _ _ _) (Nat.le_refl _) (Kd.F_nil _ _ _))) (Reps.none _ _))); intro v160 w9 ho10 hb hg_ hnew_; clear hg_ hnew_; (first | rw [← Ny159.out] at ho10 | (simp only [Int.reduceToNat] at ho10; rw [← Ny159.out] at ho10)); have n0_ := Aside0.mk (Kd.N_lower ho10 (below_size (by repeat (first | (with_reducible first | exact HB.out | apply below_alloc | apply pw_below_drewN | apply below_drew1) | exact HB.out)))); have n1_ := Aside0.mk (below_step (by repeat (first | (with_reducible first | exact HB.out | apply below_alloc | apply pw_below_drewN | apply below_drew1) | exact HB.out)) hb); clear HB; clear HO155; clear HO158; have HO161 := n0_; have HB := n1_; clear n0_ n1_; clear hb ho10; obtain ⟨Ao11, co11, eo11⟩ := Kd.N_slice HO161.out; subst eo11) | ((with_reducible refine gate_callee (f := 6) rfl ?_); refine goesL_ (some 9) rfl rfl Tryz.func6 (by kernel_rfl) rfl #[.agg #[.slice Ao11 y159.length co11, .slice none 0 0]] rfl (by (try simp only [List.map_toArray, List.map_cons, List.map_nil]); first | done | rfl | (simp only [List.length_drop, List.length_take]; rfl)) ?_; (refine (print_Print.calls _ _ y159 _ _ ([] : List ByteArray) t162 t163 _ ?side1 ?side2 ?side3 ?side4 A1.out).mono ?_); (case side1 => repeat (first | exact (Kd.N_reads' HO161.out).2.2 | (with_reducible refine Kd.C_alloc ?_ _) | (with_reducible refine Kd.C_drewN ?_ _) | (with_reducible refine Kd.C_drew ?_))); (case side2 => exact (Kd.N_reads' HO161.out).2.1); (case side3 => exact Kd.C_nil _ _); (case side4 => exact Nat.le_refl _); rintro e w12 ⟨rfl, hb⟩; refine ⟨_, rfl, ?_⟩; have n0_ := Aside0.mk (Kd.N_below (by (with_reducible repeat (first | apply Kd.N_alloc | apply Kd.N_drewN | apply Kd.N_drew)); exact HO161.out) hb); have n1_ := Aside0.mk (below_step (by repeat (first | (with_reducible first | exact HB.out | apply below_alloc | apply pw_below_drewN | apply below_drew1) | exact HB.out)) hb); clear HO161; clear HB; have HO161 := n0_; have HB := n1_; clear n0_ n1_; (try clear hb); (try clear hb2); (try clear hk); (try clear hi)))
    go_ret
    exact ⟨by first | rfl | (simp [errW_none, errW_some] <;> rfl) | (simp [*, errW_none, errW_some] <;> rfl), by repeat (first | (with_reducible first | exact HB.out | apply below_alloc | apply pw_below_drewN | apply below_drew1) | exact HB.out)⟩
  · rw [if_neg c2] at H
    have c2b0 : (t163 == 0) = false := beq_eq_false_iff_ne.mpr c2
    have c2b1 : (t163 != 0) = true := bne_iff_ne.mpr c2
    obtain rfl := Option.some.inj H
    go_enter Tryz.func8, Tryz.ntmps8
    go_wp2_with (first | ((with_reducible refine gate_dst (N := 4) rfl ?_); refine Kd.R_lit Kd.string _ 9 ?hg (N := 4) ?hd (xs := ([(⟨#[97]⟩ : ByteArray)] : List ByteArray)) (inner := [.string (⟨#[97]⟩ : ByteArray)]) (ok := fun _ => True) (okp := fun _ => True) ?hr ?hp (fun _ hk => hk) trivial (Below.refl _ _) (Nat.le_refl _) (by simp) ?_; (case hd => rfl); (case hg => rfl); (case hr => first | (go_simp; done) | (go_simp; rfl)); (case hp => exact (Reps.one (show Kd.M Kd.string _ _ _ (⟨#[97]⟩ : ByteArray) [.string (⟨#[97]⟩ : ByteArray)] from rfl) (Reps.none _ _))); intro v154 w13 ho14 hb hg_ hnew_; clear hg_ hnew_; (first | rw [← Ny153.out] at ho14 | (simp only [Int.reduceToNat] at ho14; rw [← Ny153.out] at ho14)); have n0_ := Aside0.mk (Kd.R_lower ho14 (below_size (by repeat (first | (with_reducible first | exact HB.out | apply below_alloc | apply pw_below_drewN | apply below_drew1) | exact HB.out)))); have n1_ := Aside0.mk (below_step (by repeat (first | (with_reducible first | exact HB.out | apply below_alloc | apply pw_below_drewN | apply below_drew1) | exact HB.out)) hb); clear HB; have HO155 := n0_; have HB := n1_; clear n0_ n1_; clear hb ho14) | ((with_reducible refine gate_dst (N := 5) rfl ?_); refine Kd.R_lit Kd.string _ 9 ?hg (N := 5) ?hd (xs := ([(⟨#[98]⟩ : ByteArray)] : List ByteArray)) (inner := [.string (⟨#[98]⟩ : ByteArray)]) (ok := fun _ => True) (okp := fun _ => True) ?hr ?hp (fun _ hk => hk) trivial (Below.refl _ _) (Nat.le_refl _) (by simp) ?_; (case hd => rfl); (case hg => rfl); (case hr => first | (go_simp; done) | (go_simp; rfl)); (case hp => exact (Reps.one (show Kd.M Kd.string _ _ _ (⟨#[98]⟩ : ByteArray) [.string (⟨#[98]⟩ : ByteArray)] from rfl) (Reps.none _ _))); intro v157 w15 ho16 hb hg_ hnew_; clear hg_ hnew_; (first | rw [← Ny156.out] at ho16 | (simp only [Int.reduceToNat] at ho16; rw [← Ny156.out] at ho16)); have n0_ := Aside0.mk (Kd.R_elder' (by (with_reducible repeat (first | apply Kd.R_alloc | apply Kd.R_drewN | apply Kd.R_drew)); exact HO155.out) (Kd.R_base ho16) hb); have n1_ := Aside0.mk (Kd.R_lower (Kd.R_new' ho16 (Kd.R_lt (by (with_reducible repeat (first | apply Kd.R_alloc | apply Kd.R_drewN | apply Kd.R_drew)); exact HO155.out))) (below_size (by repeat (first | (with_reducible first | exact HB.out | apply below_alloc | apply pw_below_drewN | apply below_drew1) | exact HB.out)))); have n2_ := Aside0.mk (below_step (by repeat (first | (with_reducible first | exact HB.out | apply below_alloc | apply pw_below_drewN | apply below_drew1) | exact HB.out)) hb); clear HO155; clear HB; have HO155 := n0_; have HO158 := n1_; have HB := n2_; clear n0_ n1_ n2_; clear hb ho16; obtain ⟨Ao17, co17, eo17⟩ := Kd.R_slice HO158.out; subst eo17; obtain ⟨Ao18, co18, eo18⟩ := Kd.R_slice HO155.out; subst eo18) | ((with_reducible refine gate_dst (N := 7) rfl ?_); refine Kd.N_lit k47 _ 47 ?hg (N' := 7) ?hd (xs := ([(⟨y153, y156, ([] : List ByteArray), ([] : List ByteArray), (⟨#[99]⟩ : ByteArray), (⟨#[]⟩ : ByteArray)⟩ : S47)] : List (S47))) (inner := [.slice Ao18 y153.length co18, .slice Ao17 y156.length co17, .slice none 0 0, .slice none 0 0, .string (⟨#[99]⟩ : ByteArray), .string (⟨#[]⟩ : ByteArray)]) (ok := (fun _ => True)) (okp := (fun _ => True)) ?hr ?hp (fun _ hk => hk) ((show ∀ k_, w15.heap.size ≤ k_ → (fun _ => True) k_ from fun k_ hk => trivial) _ (Nat.le_refl _)) (Below.refl _ _) (Nat.le_refl _) (by simp) ?_; (case hd => rfl); (case hg => rfl); (case hr => first | (go_simp; done) | (go_simp; rfl)); (case hp => exact (Reps.c6 (show Kd.FK k47 _ _ (⟨y153, y156, ([] : List ByteArray), ([] : List ByteArray), (⟨#[99]⟩ : ByteArray), (⟨#[]⟩ : ByteArray)⟩ : S47) [.slice Ao18 y153.length co18, .slice Ao17 y156.length co17, .slice none 0 0, .slice none 0 0, .string (⟨#[99]⟩ : ByteArray), .string (⟨#[]⟩ : ByteArray)] from (k47_mkF _ _ (⟨y153, y156, ([] : List ByteArray), ([] : List ByteArray), (⟨#[99]⟩ : ByteArray), (⟨#[]⟩ : ByteArray)⟩ : S47) (Kd.R_reads' (Kd.R_mono (ok' := (fun _ => True)) (HO155.out) (fun k_ hk => trivial))).2.1 (Kd.R_F (Kd.R_mono (ok' := (fun _ => True)) (HO155.out) (fun k_ hk => trivial))) (Kd.R_reads' (Kd.R_mono (ok' := (fun _ => True)) (HO158.out) (fun k_ hk => trivial))).2.1 (Kd.R_F (Kd.R_mono (ok' := (fun _ => True)) (HO158.out) (fun k_ hk => trivial))) (Nat.le_refl _) (Kd.F_nil _ _ _) (Nat.le_refl _) (Kd.F_nil _ _ _))) (Reps.none _ _))); intro v160 w19 ho20 hb hg_ hnew_; clear hg_ hnew_; (first | rw [← Ny159.out] at ho20 | (simp only [Int.reduceToNat] at ho20; rw [← Ny159.out] at ho20)); have n0_ := Aside0.mk (Kd.N_lower ho20 (below_size (by repeat (first | (with_reducible first | exact HB.out | apply below_alloc | apply pw_below_drewN | apply below_drew1) | exact HB.out)))); have n1_ := Aside0.mk (below_step (by repeat (first | (with_reducible first | exact HB.out | apply below_alloc | apply pw_below_drewN | apply below_drew1) | exact HB.out)) hb); clear HB; clear HO155; clear HO158; have HO161 := n0_; have HB := n1_; clear n0_ n1_; clear hb ho20; obtain ⟨Ao21, co21, eo21⟩ := Kd.N_slice HO161.out; subst eo21) | ((with_reducible refine gate_callee (f := 6) rfl ?_); refine goesL_ (some 9) rfl rfl Tryz.func6 (by kernel_rfl) rfl #[.agg #[.slice Ao21 y159.length co21, .slice none 0 0]] rfl (by (try simp only [List.map_toArray, List.map_cons, List.map_nil]); first | done | rfl | (simp only [List.length_drop, List.length_take]; rfl)) ?_; (refine (print_Print.calls _ _ y159 _ _ ([] : List ByteArray) t162 t163 _ ?side1 ?side2 ?side3 ?side4 A1.out).mono ?_); (case side1 => repeat (first | exact (Kd.N_reads' HO161.out).2.2 | (with_reducible refine Kd.C_alloc ?_ _) | (with_reducible refine Kd.C_drewN ?_ _) | (with_reducible refine Kd.C_drew ?_))); (case side2 => exact (Kd.N_reads' HO161.out).2.1); (case side3 => exact Kd.C_nil _ _); (case side4 => exact Nat.le_refl _); rintro e w22 ⟨rfl, hb⟩; refine ⟨_, rfl, ?_⟩; have n0_ := Aside0.mk (Kd.N_below (by (with_reducible repeat (first | apply Kd.N_alloc | apply Kd.N_drewN | apply Kd.N_drew)); exact HO161.out) hb); have n1_ := Aside0.mk (below_step (by repeat (first | (with_reducible first | exact HB.out | apply below_alloc | apply pw_below_drewN | apply below_drew1) | exact HB.out)) hb); clear HO161; clear HB; have HO161 := n0_; have HB := n1_; clear n0_ n1_; (try clear hb); (try clear hb2); (try clear hk); (try clear hi)))
    go_ret
    exact ⟨by first | rfl | (simp [errW_none, errW_some] <;> rfl) | (simp [*, errW_none, errW_some] <;> rfl), by repeat (first | (with_reducible first | exact HB.out | apply below_alloc | apply pw_below_drewN | apply below_drew1) | exact HB.out)⟩
end Go.Proofs.YtbjekebkgidhaaaGreatDoor.P
end
section
set_option linter.unusedSimpArgs false
set_option linter.unusedVariables false
namespace Go.Proofs.YtbjekebkgidhaaaGreatDoor.PrR
open Go.RowKit Go.Lib Go.Proofs.YtbjekebkgidhaaaGreatDoorW.PrintWords Go.Proofs.YtbjekebkgidhaaaGreatDoor.U Go.Proofs.YtbjekebkgidhaaaGreatDoor.P Go.Proofs.YtbjekebkgidhaaaGreatDoor.PTh Go.Proofs.YtbjekebkgidhaaaGreatDoor.Sc
def conv (x : S42) : S47 := ⟨x.f0, x.f1, x.f2, x.f3, x.f4, x.f5⟩
theorem rd38 (l : List S42) (i : Nat) (h : i < l.length) : rd_T42 l (i : Int) = l[i] := by simp [rd_T42, List.getD_eq_getElem?_getD, List.getElem?_eq_getElem h]
theorem evPos {α : Type} {c : Prop} [Decidable c] {f g : Nat → Option α} {r : α} (h : c) (k : Ev f r) : Ev (fun n => if c then f n else g n) r := Ev.congr (fun _ => if_pos h) k
theorem evNeg {α : Type} {c : Prop} [Decidable c] {f g : Nat → Option α} {r : α} (h : ¬ c) (k : Ev g r) : Ev (fun n => if c then f n else g n) r := Ev.congr (fun _ => if_neg h) k
theorem rd_at (xs : List ByteArray) (i : Nat) (h : i < xs.length) : rdOf ByteArray.empty xs (i : Int) = xs[i] := rdOf_B xs i h
def smN (a : ByteArray) : Bool := decide (a.size ≤ 200)
def smE (x : S42) : Bool := decide (x.f0.length ≤ 10) && (decide (x.f1.length ≤ 10) && (decide (x.f2.length ≤ 10) && (decide (x.f3.length ≤ 10) && (decide (x.f4.size ≤ 300) && decide (x.f5.size ≤ 200)))))
def names (x : S42) : List ByteArray := x.f0 ++ x.f1 ++ x.f2 ++ x.f3
theorem few_l1 (l : List ByteArray) (hn : l.length ≤ 1000000) (m : Nat) : ∀ i : Nat, i + m = l.length → Ev (fun k => bellowslaw12_few.l1 k l (i : Int)) ((l.drop i).all smN) := by
  induction m with
  | zero =>
    intro i hi
    refine Ev.unroll (Ev.some fun k => ?_)
    rw [bellowslaw12_few.l1, if_neg (by omega), List.drop_of_length_le (by omega)]; rfl
  | succ m ih =>
    intro i hi
    have hlt : i < l.length := by omega
    have i1 : (i : Int) < (l.length : Int) := by omega
    have i2 : (0 : Int) ≤ (i : Int) := by omega
    have hw := wrapH i (by omega)
    have hr := ih (i + 1) (by omega)
    refine Ev.unroll ?_
    simp only [bellowslaw12_few.l1, rd_at l i hlt, hw.out]
    rw [List.drop_eq_getElem_cons hlt, List.all_cons]
    refine evPos i1 (evPos i2 ?_)
    by_cases h : (l[i].size : Int) > 200
    · have hs : smN l[i] = false := by
        have : ¬ l[i].size ≤ 200 := by omega
        simp [smN, this]
      refine evPos h ?_
      rw [hs, Bool.false_and]; exact Ev.now _
    · have hs : smN l[i] = true := by
        have : l[i].size ≤ 200 := by omega
        simp [smN, this]
      refine evNeg h ?_
      rw [hs, Bool.true_and]; exact hr
theorem few_l0 (e : List S42) (d : List ByteArray) (hn : e.length ≤ 30) (m : Nat) : ∀ (i : Nat) (l : List ByteArray), i + m = e.length → l.length ≤ 20 + 40 * i →
    Ev (fun k => bellowslaw12_few.l0 k l (i : Int) e d) ((e.drop i).all smE && (l ++ (e.drop i).flatMap names).all smN) := by
  induction m with
  | zero =>
    intro i l hi hl
    refine Ev.unroll ?_
    simp only [bellowslaw12_few.l0]
    refine evNeg (by omega) ?_
    rw [List.drop_of_length_le (by omega)]
    simp only [List.all_nil, List.flatMap_nil, List.append_nil, Bool.true_and]
    have := few_l1 l (by omega) l.length 0 (by omega)
    rw [List.drop_zero] at this
    exact this
  | succ m ih =>
    intro i l hi hl
    have hlt : i < e.length := by omega
    have i1 : (i : Int) < (e.length : Int) := by omega
    have i2 : (0 : Int) ≤ (i : Int) := by omega
    have hw := wrapH i (by omega)
    refine Ev.unroll ?_
    simp only [bellowslaw12_few.l0, rd38 e i hlt, hw.out]
    have hr := fun l' => ih (i + 1) l' (by omega)
    rw [List.drop_eq_getElem_cons hlt, List.all_cons, List.flatMap_cons]
    generalize e[i] = x at *
    refine evPos i1 (evPos i2 ?_)
    by_cases h0 : (x.f0.length : Int) > 10
    · have : smE x = false := by have : ¬ x.f0.length ≤ 10 := by omega
                                 simp [smE, this]
      rw [this]; simp only [Bool.false_and]; exact evPos h0 (Ev.now _)
    refine evNeg h0 ?_
    by_cases h1 : (x.f1.length : Int) > 10
    · have : smE x = false := by have : ¬ x.f1.length ≤ 10 := by omega
                                 simp [smE, this]
      rw [this]; simp only [Bool.false_and]; exact evPos h1 (Ev.now _)
    refine evNeg h1 ?_
    by_cases h2 : (x.f2.length : Int) > 10
    · have : smE x = false := by have : ¬ x.f2.length ≤ 10 := by omega
                                 simp [smE, this]
      rw [this]; simp only [Bool.false_and]; exact evPos h2 (Ev.now _)
    refine evNeg h2 ?_
    by_cases h3 : (x.f3.length : Int) > 10
    · have : smE x = false := by have : ¬ x.f3.length ≤ 10 := by omega
                                 simp [smE, this]
      rw [this]; simp only [Bool.false_and]; exact evPos h3 (Ev.now _)
    refine evNeg h3 ?_
    by_cases h4 : (x.f4.size : Int) > 300
    · have : smE x = false := by have : ¬ x.f4.size ≤ 300 := by omega
                                 simp [smE, this]
      rw [this]; simp only [Bool.false_and]; exact evPos h4 (Ev.now _)
    refine evNeg h4 ?_
    by_cases h5 : (x.f5.size : Int) > 200
    · have : smE x = false := by have : ¬ x.f5.size ≤ 200 := by omega
                                 simp [smE, this]
      rw [this]; simp only [Bool.false_and]; exact evPos h5 (Ev.now _)
    refine evNeg h5 ?_
    have hs : smE x = true := by
      have a0 : x.f0.length ≤ 10 := by omega
      have a1 : x.f1.length ≤ 10 := by omega
      have a2 : x.f2.length ≤ 10 := by omega
      have a3 : x.f3.length ≤ 10 := by omega
      have a4 : x.f4.size ≤ 300 := by omega
      have a5 : x.f5.size ≤ 200 := by omega
      simp [smE, a0, a1, a2, a3, a4, a5]
    rw [hs, Bool.true_and]
    refine evPos (by omega) (Ev.bind (Ev.now _) (evPos (by simp only [List.length_append]; omega) (Ev.bind (Ev.now _) (evPos (by simp only [List.length_append]; omega) (Ev.bind (Ev.now _) (evPos (by simp only [List.length_append]; omega) ?_))))))
    have := hr (l ++ x.f0 ++ x.f1 ++ x.f2 ++ x.f3) (by simp only [List.length_append]; omega)
    have he : l ++ x.f0 ++ x.f1 ++ x.f2 ++ x.f3 ++ (e.drop (i + 1)).flatMap names = l ++ (names x ++ (e.drop (i + 1)).flatMap names) := by simp [names]
    rw [he] at this
    exact this
structure Few (e : List S42) (d : List ByteArray) : Prop where
  n : e.length ≤ 30
  m : d.length ≤ 20
  s : e.all smE = true
  t : (d ++ e.flatMap names).all smN = true
theorem ref_few (e : List S42) (d : List ByteArray) : ∃ b, Ev (fun k => bellowslaw12_few.f k e d) b ∧ (b = true → Few e d) := by
  by_cases h0 : (e.length : Int) > 30
  · refine ⟨false, ?_, fun h => by cases h⟩
    simp only [bellowslaw12_few.f]
    refine evPos h0 (Ev.unroll ?_)
    simp only [bellowslaw12_few.j0, if_true]
    exact Ev.now _
  · by_cases h1 : (d.length : Int) > 20
    · refine ⟨false, ?_, fun h => by cases h⟩
      simp only [bellowslaw12_few.f]
      refine evNeg h0 (Ev.unroll ?_)
      simp only [bellowslaw12_few.j0, decide_eq_true h1, if_true]
      exact Ev.now _
    · refine ⟨(e.drop 0).all smE && (([] ++ d) ++ (e.drop 0).flatMap names).all smN, ?_, ?_⟩
      · simp only [bellowslaw12_few.f]
        refine evNeg h0 (Ev.unroll ?_)
        simp only [bellowslaw12_few.j0, decide_eq_false h1, Bool.false_eq_true, if_false]
        refine Ev.bind (Ev.now _) (evPos (by simp only [List.length_nil]; omega) ?_)
        exact few_l0 e d (by omega) e.length 0 ([] ++ d) (by omega) (by simp only [List.length_append, List.length_nil]; omega)
      · intro h
        rw [List.drop_zero, List.nil_append, Bool.and_eq_true] at h
        exact ⟨by omega, by omega, h.1, h.2⟩
theorem awake_true : bellowslaw12_awake.f = some true := by kernel_rfl
theorem names_small {e : List S42} {d : List ByteArray} (h : Few e d) (x : S42) (hx : x ∈ e) : ∀ a ∈ names x, a.size ≤ 200 := by
  intro a ha
  have := List.all_eq_true.1 h.t a (List.mem_append_right _ (List.mem_flatMap.2 ⟨x, hx, ha⟩))
  simpa [smN] using this
theorem boundN_of {l : List ByteArray} (hn : l.length ≤ 1000) (h : ∀ a ∈ l, a.size ≤ 200) : boundN l = true := by
  simp only [boundN, Bool.and_eq_true, decide_eq_true_iff, List.all_eq_true]
  exact ⟨hn, fun a ha => by have := h a ha; omega⟩
theorem bound_of {e : List S42} {d : List ByteArray} (h : Few e d) (x : S42) (hx : x ∈ e) : boundS (conv x) = true := by
  have hs := names_small h x hx
  have hx' := List.all_eq_true.1 h.s x hx
  simp only [smE, Bool.and_eq_true, decide_eq_true_iff] at hx'
  obtain ⟨b0, b1, b2, b3, b4, b5⟩ := hx'
  have q0 : boundN x.f0 = true := boundN_of (by omega) fun a ha => hs a (by simp [names, ha])
  have q1 : boundN x.f1 = true := boundN_of (by omega) fun a ha => hs a (by simp [names, ha])
  have q2 : boundN x.f2 = true := boundN_of (by omega) fun a ha => hs a (by simp [names, ha])
  have q3 : boundN x.f3 = true := boundN_of (by omega) fun a ha => hs a (by simp [names, ha])
  have q4 : decide (x.f4.size ≤ 100000) = true := decide_eq_true (by omega)
  have q5 : decide (x.f5.size ≤ 100000) = true := decide_eq_true (by omega)
  show (boundN x.f0 && boundN x.f1 && boundN x.f2 && boundN x.f3 && decide (x.f4.size ≤ 100000) && decide (x.f5.size ≤ 100000)) = true
  rw [q0, q1, q2, q3, q4, q5]; rfl
theorem boundD {e : List S42} {d : List ByteArray} (h : Few e d) : boundN d = true :=
  boundN_of (by have := h.m; omega) fun a ha => by
    have := List.all_eq_true.1 h.t a (List.mem_append_left _ ha)
    simpa [smN] using this
theorem okM_of {e : List S42} {d : List ByteArray} (h : Few e d) : okM (e.map conv) d = true := by
  have q1 : decide ((e.map conv).length ≤ 99) = true := decide_eq_true (by rw [List.length_map]; have := h.n; omega)
  have q2 : (e.map conv).all boundS = true := by
    rw [List.all_eq_true]
    intro y hy
    obtain ⟨x, hx, rfl⟩ := List.mem_map.1 hy
    exact bound_of h x hx
  unfold okM
  rw [q1, boundD h, q2]; rfl
end Go.Proofs.YtbjekebkgidhaaaGreatDoor.PrR
end
section
set_option linter.unusedSimpArgs false
set_option linter.unusedVariables false
namespace Go.Proofs.YtbjekebkgidhaaaGreatDoor.RegI
open Go Go.Proofs.YtbjekebkgidhaaaGreatDoor.RegG Go.Proofs.YtbjekebkgidhaaaGreatDoor.RegP
section
variable {P : Program} {ops : Array Oper} {Q : Exit → Act → World → Prop} {md : Region.Mode} {S : World → Prop} {k : Nat}
theorem inv_thenG (I : Nat → Array Bool → Act → World → Prop) (F : Nat) (hd : ∀ l a w, I 0 l a w → wpAnyG P md ops Q S k F l a w)
    (hs : ∀ n l a w, I (n + 1) l a w → Region.ready md ops l ≠ [] ∧ ∀ i ∈ Region.ready md ops l, wpOp P ops Q i (fun a' w' => S w' ∧ I n (l.setIfInBounds i true) a' w') a w) :
    ∀ (n : Nat) (l : Array Bool) (a : Act) (w : World), I n l a w → wpAnyG P md ops Q S k (n + F) l a w
  | 0, l, a, w, h => by rw [Nat.zero_add]; exact hd l a w h
  | n + 1, l, a, w, h => by
    obtain ⟨h1, h2⟩ := hs n l a w h
    rw [Nat.add_right_comm]
    refine ⟨fun e => absurd e h1, fun i hi => ?_⟩
    exact wpOp_mono (fun a' w' hh => ⟨fun _ => hh.1, inv_thenG I F hd hs n _ a' w' hh.2⟩) (h2 i hi)
def preOk (md : Region.Mode) (ops : Array Oper) (k : Nat) : List (Nat × Nat) → Array Bool → Bool
  | [], _ => true
  | (_, i) :: r, l => ((i != k) && waits md ops k i && (l.getD k true == false) && Region.free md ops l i && (Region.ready md ops l).contains i) && preOk md ops k r (l.setIfInBounds i true)
def preL : List (Nat × Nat) → Array Bool → Array Bool
  | [], l => l
  | (_, i) :: r, l => preL r (l.setIfInBounds i true)
def wpPre (P : Program) (ops : Array Oper) (Q : Exit → Act → World → Prop) (S : World → Prop) (C : Act → Prop) : List (Nat × Nat) → Act → Prop
  | [], a => C a
  | (t, i) :: r, a => ∃ o, ops[i]? = some o ∧ ∃ v, (∀ c a w, Q (.panic c) (a.put o.dst v) w → Q (.panic c) a w) ∧ Region.wanted o (yielded ops a.tmps) = true ∧
      (match t with
        | 0 => ∀ w', (execOp a.eval o).run P w' = .ok (.value v) w'
        | _ => ∀ w', S w' → (execOp a.eval o).run P w' = .ok (.value v) w') ∧ wpPre P ops Q S C r (a.put o.dst v)
theorem pre_thenG (hs : Region.noSelect ops = true) {C : Act → Prop} {F : Nat} {w : World} (hS : S w) : ∀ (pre : List (Nat × Nat)) (l : Array Bool) (a : Act), preOk md ops k pre l = true →
    (∀ a, C a → wpAnyG P md ops Q S k F (preL pre l) a w) → wpPre P ops Q S C pre a → wpAnyG P md ops Q S k (pre.length + F) l a w
  | [], l, a, _, hC, h => by rw [List.length_nil, Nat.zero_add]; exact hC a h
  | (t, i) :: r, l, a, hok, hC, h => by
    obtain ⟨o, ho, v, q1, q2, q3, q4⟩ := h
    simp only [preOk, Bool.and_eq_true] at hok
    obtain ⟨⟨⟨⟨⟨e1, e2⟩, e3⟩, e4⟩, e5⟩, e6⟩ := hok
    rw [List.length_cons, Nat.add_right_comm]
    refine takeS ho e1 e2 (by simpa using e3) hs e4 e5 q1 q2 (fun w' hw' => ?_) hS (pre_thenG hs hS r _ _ e6 hC q4)
    cases t with
    | zero => exact q3 w'
    | succ t => exact q3 w' hw'
theorem p0 {i : Nat} {r : List (Nat × Nat)} {a : Act} {o : Oper} {v : Value} {C : Act → Prop} (ho : ops[i]? = some o) (hQ : ∀ c a w, Q (.panic c) (a.put o.dst v) w → Q (.panic c) a w) (hw : Region.wanted o (yielded ops a.tmps) = true)
    (hv : ∀ w', (execOp a.eval o).run P w' = .ok (.value v) w') (h : wpPre P ops Q S C r (a.put o.dst v)) : wpPre P ops Q S C ((0, i) :: r) a := ⟨o, ho, v, hQ, hw, hv, h⟩
theorem p1 {i : Nat} {r : List (Nat × Nat)} {a : Act} {o : Oper} {v : Value} {C : Act → Prop} (ho : ops[i]? = some o) (hQ : ∀ c a w, Q (.panic c) (a.put o.dst v) w → Q (.panic c) a w) (hw : Region.wanted o (yielded ops a.tmps) = true)
    (hv : ∀ w', S w' → (execOp a.eval o).run P w' = .ok (.value v) w') (h : wpPre P ops Q S C r (a.put o.dst v)) : wpPre P ops Q S C ((1, i) :: r) a := ⟨o, ho, v, hQ, hw, hv, h⟩
theorem pe {a : Act} {C : Act → Prop} (h : C a) : wpPre P ops Q S C [] a := h
theorem regionI {id : Nat} {a : Act} {w : World} (S : World → Prop) (k : Nat) (pre post : List (Nat × Nat)) (n : Nat) (L1 : Array Bool) (I : Nat → Array Bool → Act → World → Prop) (hm : P.follows .mixedOrders = true) (hs : Region.noSelect ops = true)
    (hl : pre.length + (n + post.length) = ops.size) (hpre : preOk .any ops k pre (Array.replicate ops.size false) = true) (hpost : planOk .any ops k post L1 = true) (hS : S w.drew)
    (hd : ∀ l a w, I 0 l a w → l = L1 ∧ S w ∧ wpPlan P ops Q S post a w)
    (hst : ∀ n l a w, I (n + 1) l a w → Region.ready .any ops l ≠ [] ∧ ∀ i ∈ Region.ready .any ops l, wpOp P ops Q i (fun a' w' => S w' ∧ I n (l.setIfInBounds i true) a' w') a w)
    (h : wpPre P ops Q S (fun a => I n (preL pre (Array.replicate ops.size false)) a w.drew) pre a) : (Code.region id ops true).wp P Q a w := by
  refine regionG S k hm hS fun hS' => ?_
  rw [← hl] at hpre h ⊢
  refine pre_thenG hs hS' pre _ a hpre (fun a ha => ?_) h
  refine inv_thenG I post.length (fun l a w hI => ?_) hst n _ _ _ ha
  obtain ⟨e, hSw, hp⟩ := hd l a w hI
  subst e
  exact any_of_plan hs post _ a w hpost (fun _ => hSw) hp
end
end Go.Proofs.YtbjekebkgidhaaaGreatDoor.RegI
end
section
set_option linter.unusedSimpArgs false
set_option linter.unusedVariables false
namespace Go.Proofs.YtbjekebkgidhaaaGreatDoor.Of4
open Go.RowKit Go.Lib Go.Shelf Go.Maps Go.Proofs.YtbjekebkgidhaaaGreatDoorW.PrintWords Go.Proofs.YtbjekebkgidhaaaGreatDoor.U Go.Proofs.YtbjekebkgidhaaaGreatDoor.Mf
def set4 {α : Type} (f : Fin 4 → α) (i : Fin 4) (x : α) : Fin 4 → α := fun j => if j = i then x else f j
theorem set4_same {α : Type} (f : Fin 4 → α) (i : Fin 4) (x : α) : set4 f i x i = x := if_pos rfl
theorem set4_other {α : Type} (f : Fin 4 → α) {i j : Fin 4} (x : α) (h : j ≠ i) : set4 f i x j = f j := if_neg h
structure Four (w : World) (base : Nat) (a p : Fin 4 → Bool) (v : Fin 4 → Value) (xs : Fin 4 → List ByteArray) : Prop where
  row : ∀ i, a i = true → Kd.R Kd.string 9 w base (fun _ => True) (v i) (if p i = true then xs i else [])
  emp : ∀ i, a i = false → (v i).ownBlock = none
  dis : ∀ i j, i ≠ j → ∀ k, (v i).ownBlock = some k → (v j).ownBlock ≠ some k
section
variable {w w' : World} {base : Nat} {a p : Fin 4 → Bool} {v : Fin 4 → Value} {xs : Fin 4 → List ByteArray}
theorem Four.lt (h : Four w base a p v xs) (i : Fin 4) (k : Nat) (hk : (v i).ownBlock = some k) : k < w.heap.size := by
  cases hi : a i with
  | false => rw [h.emp i hi] at hk; cases hk
  | true => exact Kd.R_lt (h.row i hi) k hk
theorem R_kept {v : Value} {l : List ByteArray} {ok : Nat → Prop} (h : Kd.R Kd.string 9 w base ok v l) (hm : ∀ k, v.ownBlock = some k → w'.heap[k]? = w.heap[k]?) : Kd.R Kd.string 9 w' base ok v l := by
  obtain ⟨h1, inner, ho, hr⟩ := h
  exact ⟨h1, inner, own_move ho hm, hr⟩
theorem Four.alloc (h : Four w base a p v xs) (hb : base ≤ w.heap.size) (i : Fin 4) (hp : p i = false) (hw : Kd.R Kd.string 9 (w.alloc (.cells #[] 9)) base (fun _ => True) (.slice (some ⟨w.heap.size, 0, none⟩) 0 0) []) :
    Four (w.alloc (.cells #[] 9)) base (set4 a i true) p (set4 v i (.slice (some ⟨w.heap.size, 0, none⟩) 0 0)) xs := by
  refine ⟨fun j hj => ?_, fun j hj => ?_, fun j l hjl k hk => ?_⟩
  · by_cases e : j = i
    · subst e
      rw [set4_same, hp]; exact hw
    · rw [set4_other _ _ e] at hj ⊢
      exact R_kept (h.row j hj) fun k hk => heapAt_lt (h.lt j k hk)
  · by_cases e : j = i
    · subst e; rw [set4_same] at hj; cases hj
    · rw [set4_other _ _ e] at hj ⊢; exact h.emp j hj
  · by_cases e : j = i
    · subst e
      rw [set4_same] at hk
      have : w.heap.size = k := by simpa [Value.ownBlock] using hk
      rw [set4_other _ _ (Ne.symm hjl)]
      intro hl
      have := h.lt l k hl
      omega
    · rw [set4_other _ _ e] at hk
      by_cases e2 : l = i
      · subst e2
        rw [set4_same]
        intro hl
        have : w.heap.size = k := by simpa [Value.ownBlock] using hl
        have := h.lt j k hk
        omega
      · rw [set4_other _ _ e2]; exact h.dis j l hjl k hk
theorem Four.append (h : Four w base a p v xs) (i : Fin 4) (ha : a i = true) {v1 : Value} (hR : Kd.R Kd.string 9 w' base (fun _ => True) v1 (xs i)) (hg : w.grownBy w' (v i).ownBlock) (hat : v1.ownBlock = (v i).ownBlock ∨ ∃ b, v1.ownBlock = some b ∧ w.heap.size ≤ b) :
    Four w' base a (set4 p i true) (set4 v i v1) xs := by
  have keep : ∀ j, j ≠ i → ∀ k, (v j).ownBlock = some k → w'.heap[k]? = w.heap[k]? := fun j hj k hk =>
    hg.block k (h.lt j k hk) (fun e => h.dis j i hj k hk e.symm)
  have apart : ∀ j, j ≠ i → ∀ k, (v j).ownBlock = some k → v1.ownBlock ≠ some k := by
    intro j hj k hk e
    rcases hat with hat | ⟨b, hb, hle⟩
    · rw [hat] at e; exact h.dis j i hj k hk e
    · rw [hb] at e; injection e with e
      have := h.lt j k hk
      omega
  refine ⟨fun j hj => ?_, fun j hj => ?_, fun j l hjl k hk => ?_⟩
  · by_cases e : j = i
    · subst e
      rw [set4_same, set4_same, if_pos rfl]; exact hR
    · rw [set4_other _ _ e, set4_other _ _ e]
      exact R_kept (h.row j hj) (keep j e)
  · by_cases e : j = i
    · subst e; rw [ha] at hj; cases hj
    · rw [set4_other _ _ e]; exact h.emp j hj
  · by_cases e : j = i
    · subst e
      rw [set4_same] at hk
      rw [set4_other _ _ (Ne.symm hjl)]
      intro hl
      exact apart l (Ne.symm hjl) k hl hk
    · rw [set4_other _ _ e] at hk
      by_cases e2 : l = i
      · subst e2
        rw [set4_same]; exact apart j e k hk
      · rw [set4_other _ _ e2]; exact h.dis j l hjl k hk
end
end Go.Proofs.YtbjekebkgidhaaaGreatDoor.Of4
end
section
set_option linter.unusedSimpArgs false
set_option linter.unusedVariables false
namespace Go.Proofs.YtbjekebkgidhaaaGreatDoor.Of4
open Go.RowKit Go.Lib Go.Shelf Go.Maps Go.Proofs.YtbjekebkgidhaaaGreatDoorW.PrintWords Go.Proofs.YtbjekebkgidhaaaGreatDoor.U Go.Proofs.YtbjekebkgidhaaaGreatDoor.Mf Go.Proofs.YtbjekebkgidhaaaGreatDoor.P
def EdgesF (w : World) (b : Nat) (v : Value) (l : List EdgeO) (f0 f1 f2 f3 : Nat → Value) : Prop :=
  w.ownsRow b 47 6 v l.length (ecells f0 f1 f2 f3 0 l) ∧ ∀ (j : Nat) (h : j < l.length),
    w.ownsRow b 9 1 (f0 j) l[j].outs.length (strs l[j].outs) ∧ w.ownsRow b 9 1 (f1 j) l[j].ins.length (strs l[j].ins) ∧ w.ownsRow b 9 1 (f2 j) l[j].imp.length (strs l[j].imp) ∧ w.ownsRow b 9 1 (f3 j) l[j].ord.length (strs l[j].ord)
theorem EdgesF.at {w : World} {b : Nat} {v : Value} {l : List EdgeO} {f0 f1 f2 f3 : Nat → Value} (h : EdgesF w b v l f0 f1 f2 f3) : EdgesAt w b v l := ⟨f0, f1, f2, f3, h.1, h.2⟩
theorem EdgesF.nil (w : World) (b : Nat) : EdgesF w b (.slice none 0 0) [] (fun _ => undef) (fun _ => undef) (fun _ => undef) (fun _ => undef) := ⟨World.ownsRow_nil _ _ _ _, fun j h => absurd h (by simp)⟩
theorem EdgesF.move {w w' : World} {b : Nat} {v : Value} {l : List EdgeO} {f0 f1 f2 f3 : Nat → Value} (h : EdgesF w b v l f0 f1 f2 f3)
    (hm : ∀ (k : Nat) (cs : Array Value) (t : TypeId), w.heap[k]? = some (.cells cs t (0, 0)) → (t = 9 ∨ t = 47) → w'.heap[k]? = w.heap[k]?) : EdgesF w' b v l f0 f1 f2 f3 := by
  refine ⟨own_move h.1 fun k hk => ?_, fun j hj => ?_⟩
  · obtain ⟨cs, hcs⟩ := own_typed h.1 k hk
    exact hm k cs _ hcs (.inr rfl)
  · obtain ⟨a, b, c, d⟩ := h.2 j hj
    have mv : ∀ {u : Value} {n : Nat} {xs : List Value} {b' : Nat}, w.ownsRow b' 9 1 u n xs → w'.ownsRow b' 9 1 u n xs := fun ho => own_move ho fun k hk => by
      obtain ⟨cs, hcs⟩ := own_typed ho k hk
      exact hm k cs _ hcs (.inl rfl)
    exact ⟨mv a, mv b, mv c, mv d⟩
def up (f : Nat → Value) (n : Nat) (y : Value) : Nat → Value := fun j => if j = n then y else f j
theorem up_eq (f : Nat → Value) (n : Nat) (y : Value) : up f n y n = y := if_pos rfl
theorem up_ne (f : Nat → Value) {n j : Nat} (y : Value) (h : j ≠ n) : up f n y j = f j := if_neg h
theorem ecells_up (f0 f1 f2 f3 : Nat → Value) (y0 y1 y2 y3 : Value) : ∀ (l : List EdgeO) (k n : Nat), k + l.length ≤ n → ecells (up f0 n y0) (up f1 n y1) (up f2 n y2) (up f3 n y3) k l = ecells f0 f1 f2 f3 k l
  | [], k, n, _ => rfl
  | x :: l, k, n, h => by
    rw [List.length_cons] at h
    rw [ecells, ecells, ecells_up f0 f1 f2 f3 y0 y1 y2 y3 l (k + 1) n (by omega), up_ne _ _ (by omega), up_ne _ _ (by omega), up_ne _ _ (by omega), up_ne _ _ (by omega)]
theorem EdgesF.snoc {w w9 : World} {b : Nat} {v v9 y0 y1 y2 y3 : Value} {l : List EdgeO} {f0 f1 f2 f3 : Nat → Value} (h : EdgesF w b v l f0 f1 f2 f3) (x : EdgeO)
    (r0 : w.ownsRow b 9 1 y0 x.outs.length (strs x.outs)) (r1 : w.ownsRow b 9 1 y1 x.ins.length (strs x.ins)) (r2 : w.ownsRow b 9 1 y2 x.imp.length (strs x.imp)) (r3 : w.ownsRow b 9 1 y3 x.ord.length (strs x.ord))
    (ho : w9.ownsRow b 47 6 v9 (l.length + 1) (ecells f0 f1 f2 f3 0 l ++ [y0, y1, y2, y3, .string (B x.command), .string (B x.depfile)])) (hg : w.grownBy w9 v.ownBlock) :
    EdgesF w9 b v9 (l ++ [x]) (up f0 l.length y0) (up f1 l.length y1) (up f2 l.length y2) (up f3 l.length y3) := by
  have mv : ∀ {u : Value} {n : Nat} {xs : List Value}, w.ownsRow b 9 1 u n xs → w9.ownsRow b 9 1 u n xs := fun hu => own_move hu fun k hk => by
    obtain ⟨cs, hcs⟩ := own_typed hu k hk
    refine hg.block k (lt_blk hcs) (fun e => ?_)
    obtain ⟨cs', hcs'⟩ := own_typed h.1 k e.symm
    rw [hcs] at hcs'
    injection hcs' with hcs'
    injection hcs' with _ h2 _
    exact absurd h2 (by decide)
  refine ⟨?_, fun j hj => ?_⟩
  · rw [ecells_append, ecells_up _ _ _ _ _ _ _ _ l 0 l.length (by omega), Nat.zero_add, up_eq, up_eq, up_eq, up_eq, List.length_append, List.length_singleton]
    exact ho
  · rcases Nat.lt_or_ge j l.length with hlt | hge
    · rw [List.getElem_append_left hlt, up_ne _ _ (by omega), up_ne _ _ (by omega), up_ne _ _ (by omega), up_ne _ _ (by omega)]
      obtain ⟨a, b, c, d⟩ := h.2 j hlt
      exact ⟨mv a, mv b, mv c, mv d⟩
    · have hj' : j = l.length := by rw [List.length_append, List.length_singleton] at hj; omega
      subst hj'
      have e2 : (l ++ [x])[l.length] = x := by rw [List.getElem_append_right (Nat.le_refl _)]; simp
      rw [e2, up_eq, up_eq, up_eq, up_eq]
      exact ⟨mv r0, mv r1, mv r2, mv r3⟩
theorem own_of_Rs {w : World} {b : Nat} {ok : Nat → Prop} {v : Value} {l : List ByteArray} (h : Kd.R Kd.string 9 w b ok v l) : w.ownsRow b 9 1 v (l.map toL).length (strs (l.map toL)) := by
  have := Kd.own_of_R (h1 := fun _ => rfl) h
  rw [encs_map] at this
  rw [List.length_map, strs, List.map_map]
  have e : l.map ((fun t => Value.string (B t)) ∘ toL) = l.map Value.string := List.map_congr_left fun a _ => by show Value.string (B (toL a)) = _; rw [B_toL]
  rw [e]; exact this
end Go.Proofs.YtbjekebkgidhaaaGreatDoor.Of4
end
section
set_option linter.unusedSimpArgs false
set_option linter.unusedVariables false
namespace Go.Proofs.YtbjekebkgidhaaaGreatDoor.Of4
open Go Go.RowKit Go.Lib Go.Shelf Go.Maps Go.Proofs.YtbjekebkgidhaaaGreatDoorW.PrintWords Go.Proofs.YtbjekebkgidhaaaGreatDoor.U Go.Proofs.YtbjekebkgidhaaaGreatDoor.Mf Go.Proofs.YtbjekebkgidhaaaGreatDoor.P Go.Proofs.YtbjekebkgidhaaaGreatDoor.RegP
def ch (i j : Nat) (q b p : Bool) : List Nat := if b = true then (if p = true then [] else if q = true then [j] else []) else [i]
def rdy (b0 p0 b1 p1 b2 p2 b3 p3 : Bool) : List Nat := ch 2 5 true b0 p0 ++ (ch 6 9 p0 b1 p1 ++ (ch 10 13 p1 b2 p2 ++ (ch 14 17 p2 b3 p3 ++ (if (p0 && p1 && p2 && p3) = true then [22] else []))))
def Larr (b0 p0 b1 p1 b2 p2 b3 p3 : Bool) : Array Bool := #[true, true, b0, true, true, p0, b1, true, true, p1, b2, true, true, p2, b3, true, true, p3, true, true, true, true, false, false, false, false, false]
def one (b : Bool) : Nat := if b = true then 0 else 1
def cnt (b0 p0 b1 p1 b2 p2 b3 p3 : Bool) : Nat := one b0 + one p0 + one b1 + one p1 + one b2 + one p2 + one b3 + one p3
theorem ch_mem {i j k : Nat} {q b p : Bool} (h : k ∈ ch i j q b p) : (k = i ∧ b = false) ∨ (k = j ∧ b = true ∧ p = false ∧ q = true) := by
  unfold ch at h
  cases b <;> cases p <;> cases q <;> simp at h
  · exact .inl ⟨h, rfl⟩
  · exact .inl ⟨h, rfl⟩
  · exact .inl ⟨h, rfl⟩
  · exact .inl ⟨h, rfl⟩
  · exact .inr ⟨h, rfl, rfl, rfl⟩
theorem rdy_mem {b0 p0 b1 p1 b2 p2 b3 p3 : Bool} {i : Nat} (h : i ∈ rdy b0 p0 b1 p1 b2 p2 b3 p3) (hn : (p0 && p1 && p2 && p3) = false) : ((i = 2 ∧ b0 = false) ∨ (i = 5 ∧ b0 = true ∧ p0 = false)) ∨ ((i = 6 ∧ b1 = false) ∨ (i = 9 ∧ b1 = true ∧ p1 = false)) ∨ ((i = 10 ∧ b2 = false) ∨ (i = 13 ∧ b2 = true ∧ p2 = false)) ∨ ((i = 14 ∧ b3 = false) ∨ (i = 17 ∧ b3 = true ∧ p3 = false)) := by
  unfold rdy at h
  have d : ∀ {i j k : Nat} {q b p : Bool}, k ∈ ch i j q b p → (k = i ∧ b = false) ∨ (k = j ∧ b = true ∧ p = false) := fun h => (ch_mem h).imp id (fun h => ⟨h.1, h.2.1, h.2.2.1⟩)
  rcases List.mem_append.1 h with h | h
  · exact .inl (d h)
  rcases List.mem_append.1 h with h | h
  · exact .inr (.inl (d h))
  rcases List.mem_append.1 h with h | h
  · exact .inr (.inr (.inl (d h)))
  rcases List.mem_append.1 h with h | h
  · exact .inr (.inr (.inr (d h)))
  · rw [hn] at h; cases h
theorem rdy_ne : ∀ b0 p0 b1 p1 b2 p2 b3 p3 : Bool, rdy b0 p0 b1 p1 b2 p2 b3 p3 ≠ [] := by decide +kernel
theorem cnt_zero {b0 p0 b1 p1 b2 p2 b3 p3 : Bool} (h : 0 = cnt b0 p0 b1 p1 b2 p2 b3 p3) : b0 = true ∧ p0 = true ∧ b1 = true ∧ p1 = true ∧ b2 = true ∧ p2 = true ∧ b3 = true ∧ p3 = true := by
  unfold cnt one at h
  cases b0 <;> cases p0 <;> cases b1 <;> cases p1 <;> cases b2 <;> cases p2 <;> cases b3 <;> cases p3 <;> simp at h ⊢
theorem cnt_succ {n : Nat} : ∀ {b0 p0 b1 p1 b2 p2 b3 p3 : Bool}, n + 1 = cnt b0 p0 b1 p1 b2 p2 b3 p3 → (p0 = true → b0 = true) → (p1 = true → b1 = true) → (p2 = true → b2 = true) → (p3 = true → b3 = true) → (p0 && p1 && p2 && p3) = false := by
  intro b0 p0 b1 p1 b2 p2 b3 p3 h h0 h1 h2 h3
  cases p0 <;> cases p1 <;> cases p2 <;> cases p3 <;> simp at h0 h1 h2 h3 ⊢
  subst h0 h1 h2 h3
  unfold cnt one at h
  simp at h
theorem wpOp_shut {P : Program} {ops : Array Oper} {Q : Exit → Act → World → Prop} {i : Nat} {K : Act → World → Prop} {a : Act} {w : World} {o : Oper} (ho : ops[i]? = some o)
    (h : ∀ K' : Act → World → Prop, Shut (∀ a w, K a w → K' a w) → if Region.wanted o (yielded ops a.tmps) = true then Oper.wp P o a w K' Q else K' (a.put o.dst undef) w) : wpOp P ops Q i K a w := by
  have := h K (fun a w h => h)
  unfold wpOp
  rw [ho]
  dsimp only
  by_cases hw : Region.wanted o (yielded ops a.tmps) = true
  · rw [if_pos hw] at this ⊢; exact .inl this
  · rw [if_neg hw] at this ⊢; exact this
def sel4 {α : Type} (a b c d : α) : Fin 4 → α
  | 0 => a
  | 1 => b
  | 2 => c
  | 3 => d
theorem R_fresh (w : World) (base : Nat) (hb : base ≤ w.heap.size) : Kd.R Kd.string 9 (w.alloc (.cells #[] 9)) base (fun _ => True) (.slice (some ⟨w.heap.size, 0, none⟩) 0 0) [] :=
  ⟨fun _ _ => trivial, [], World.ownsRow_made w #[] 0 hb (Nat.zero_le _) rfl, Reps.none _ _⟩
theorem cnt_b (b p : Fin 4 → Bool) (j : Fin 4) (h : b j = false) : cnt (set4 b j true 0) (p 0) (set4 b j true 1) (p 1) (set4 b j true 2) (p 2) (set4 b j true 3) (p 3) + 1 = cnt (b 0) (p 0) (b 1) (p 1) (b 2) (p 2) (b 3) (p 3) := by
  have t : one true = 0 := rfl
  have f : one false = 1 := rfl
  match j with
  | 0 => show cnt true (p 0) (b 1) (p 1) (b 2) (p 2) (b 3) (p 3) + 1 = _; rw [h]; unfold cnt; omega
  | 1 => show cnt (b 0) (p 0) true (p 1) (b 2) (p 2) (b 3) (p 3) + 1 = _; rw [h]; unfold cnt; omega
  | 2 => show cnt (b 0) (p 0) (b 1) (p 1) true (p 2) (b 3) (p 3) + 1 = _; rw [h]; unfold cnt; omega
  | 3 => show cnt (b 0) (p 0) (b 1) (p 1) (b 2) (p 2) true (p 3) + 1 = _; rw [h]; unfold cnt; omega
theorem cnt_p (b p : Fin 4 → Bool) (j : Fin 4) (h : p j = false) : cnt (b 0) (set4 p j true 0) (b 1) (set4 p j true 1) (b 2) (set4 p j true 2) (b 3) (set4 p j true 3) + 1 = cnt (b 0) (p 0) (b 1) (p 1) (b 2) (p 2) (b 3) (p 3) := by
  have t : one true = 0 := rfl
  have f : one false = 1 := rfl
  match j with
  | 0 => show cnt (b 0) true (b 1) (p 1) (b 2) (p 2) (b 3) (p 3) + 1 = _; rw [h]; unfold cnt; omega
  | 1 => show cnt (b 0) (p 0) (b 1) true (b 2) (p 2) (b 3) (p 3) + 1 = _; rw [h]; unfold cnt; omega
  | 2 => show cnt (b 0) (p 0) (b 1) (p 1) (b 2) true (b 3) (p 3) + 1 = _; rw [h]; unfold cnt; omega
  | 3 => show cnt (b 0) (p 0) (b 1) (p 1) (b 2) (p 2) (b 3) true + 1 = _; rw [h]; unfold cnt; omega
structure I4 (w0 : World) (xs : Fin 4 → List ByteArray) (n : Nat) (b p : Fin 4 → Bool) (X Y v : Fin 4 → Value) (W : World) : Prop where
  n : n = cnt (b 0) (p 0) (b 1) (p 1) (b 2) (p 2) (b 3) (p 3)
  bp : ∀ j, p j = true → b j = true
  X : ∀ j, b j = true → p j = false → X j = v j
  Y : ∀ j, p j = true → Y j = v j
  four : Four W w0.heap.size b p v xs
  bel : Below w0.heap.size w0 W
section
variable {w0 W : World} {xs : Fin 4 → List ByteArray} {n : Nat} {b p : Fin 4 → Bool} {X Y v : Fin 4 → Value}
theorem I4.alloc (h : I4 w0 xs (n + 1) b p X Y v W) (j : Fin 4) (hj : b j = false) :
    I4 w0 xs n (set4 b j true) p (set4 X j (.slice (some ⟨W.heap.size, 0, none⟩) 0 0)) Y (set4 v j (.slice (some ⟨W.heap.size, 0, none⟩) 0 0)) (W.alloc (.cells #[] 9)) := by
  have hp : p j = false := by
    cases e : p j with
    | false => rfl
    | true => rw [h.bp j e] at hj; cases hj
  refine ⟨by have := cnt_b b p j hj; have := h.n; omega, fun i hi => ?_, fun i hi hi' => ?_, fun i hi => ?_, h.four.alloc h.bel.size j hp (R_fresh W _ h.bel.size), h.bel.alloc h.bel.size _⟩
  · by_cases e : i = j
    · subst e; exact set4_same _ _ _
    · rw [set4_other _ _ e]; exact h.bp i hi
  · by_cases e : i = j
    · subst e; rw [set4_same, set4_same]
    · rw [set4_other _ _ e] at hi; rw [set4_other _ _ e, set4_other _ _ e]; exact h.X i hi hi'
  · by_cases e : i = j
    · subst e; rw [hp] at hi; cases hi
    · rw [set4_other _ _ e]; exact h.Y i hi
theorem I4.append (h : I4 w0 xs (n + 1) b p X Y v W) (j : Fin 4) (hj : b j = true) (hj' : p j = false) {v1 : Value} {w1 : World} (hR : Kd.R Kd.string 9 w1 w0.heap.size (fun _ => True) v1 ([] ++ xs j)) (hb : Below w0.heap.size w0 w1) (hg : W.grownBy w1 (v j).ownBlock)
    (hat : v1.ownBlock = (v j).ownBlock ∨ ∃ b, v1.ownBlock = some b ∧ W.heap.size ≤ b) : I4 w0 xs n b (set4 p j true) X (set4 Y j v1) (set4 v j v1) w1 := by
  refine ⟨by have := cnt_p b p j hj'; have := h.n; omega, fun i hi => ?_, fun i hi hi' => ?_, fun i hi => ?_, h.four.append j hj hR hg hat, hb⟩
  · by_cases e : i = j
    · subst e; exact hj
    · rw [set4_other _ _ e] at hi; exact h.bp i hi
  · by_cases e : i = j
    · subst e; rw [set4_same] at hi'; cases hi'
    · rw [set4_other _ _ e] at hi'; rw [set4_other _ _ e]; exact h.X i hi hi'
  · by_cases e : i = j
    · subst e; rw [set4_same, set4_same]
    · rw [set4_other _ _ e] at hi; rw [set4_other _ _ e, set4_other _ _ e]; exact h.Y i hi
theorem I4.row (h : I4 w0 xs (n + 1) b p X Y v W) (j : Fin 4) (hj : b j = true) (hj' : p j = false) : Kd.R Kd.string 9 W w0.heap.size (fun _ => True) (v j) [] := by
  have := h.four.row j hj
  rw [hj', if_neg (by decide)] at this
  exact this
theorem I4.nempty (h : I4 w0 xs (n + 1) b p X Y v W) : (p 0 && p 1 && p 2 && p 3) = false := cnt_succ h.n (h.bp 0) (h.bp 1) (h.bp 2) (h.bp 3)
theorem I4.done (h : I4 w0 xs 0 b p X Y v W) (j : Fin 4) : b j = true ∧ p j = true ∧ Kd.R Kd.string 9 W w0.heap.size (fun _ => True) (Y j) (xs j) := by
  obtain ⟨h0, g0, h1, g1, h2, g2, h3, g3⟩ := cnt_zero h.n
  have hp : p j = true := by
    match j with
    | 0 => exact g0
    | 1 => exact g1
    | 2 => exact g2
    | 3 => exact g3
  have := h.four.row j (h.bp j hp)
  rw [if_pos hp, ← h.Y j hp] at this
  exact ⟨h.bp j hp, hp, this⟩
end
theorem own_rowN {w : World} {b n sz : Nat} {t : TypeId} {v : Value} {xs : List Value} (h : w.ownsRow b t sz v n xs) : ∃ A c, v = .slice A n c := by
  rcases h.2 with ⟨e, e2⟩ | ⟨b, cap, _, e, _⟩
  · exact ⟨none, 0, by rw [e, e2]⟩
  · exact ⟨_, _, e⟩
theorem ready_step {md : Region.Mode} {ops : Array Oper} {L : Array Bool} {R : List Nat} {p : Nat → Prop} (h : Region.ready md ops L = R) (h1 : R ≠ []) (h2 : ∀ i ∈ R, p i) : Region.ready md ops L ≠ [] ∧ ∀ i ∈ Region.ready md ops L, p i := by
  rw [h]; exact ⟨h1, h2⟩
end Go.Proofs.YtbjekebkgidhaaaGreatDoor.Of4
end
section
set_option linter.unusedSimpArgs false
set_option linter.unusedVariables false
namespace Go.Proofs.YtbjekebkgidhaaaGreatDoor.Of4
open Go.RowKit Go.Lib Go.Shelf Go.Maps Go.Proofs.YtbjekebkgidhaaaGreatDoorW.PrintWords Go.Proofs.YtbjekebkgidhaaaGreatDoor.U Go.Proofs.YtbjekebkgidhaaaGreatDoor.Mf Go.Proofs.YtbjekebkgidhaaaGreatDoor.P Go.Proofs.YtbjekebkgidhaaaGreatDoor.PrR
def OfPost (m : List SE) (d : List ByteArray) (w : World) (x : Ending) (w' : World) : Prop :=
  ∃ A0 c0 A1 c1, x = .returned (.agg #[.slice A0 m.length c0, .slice A1 d.length c1]) ∧ (m.length ≤ c0 ∧ Kd.C KE w' A0 m.length m) ∧ (d.length ≤ c1 ∧ Kd.C Kd.string w' A1 d.length d) ∧ Below w.heap.size w w'
def cvO (x : SR) : EdgeO := ⟨x.f0.map toL, x.f1.map toL, x.f2.map toL, x.f3.map toL, toL x.f4, toL x.f5⟩
theorem toS_cvO (x : SR) : toS (cvO x) = conv x := by
  unfold toS cvO conv
  simp only [map_B_toL, B_toL]
theorem infoStr16 : (Tryz.prog.info? 9).map (fun i => (i.zero, i.size, i.bytes)) = some (some (.string ⟨#[]⟩), 1, 16) := by kernel_rfl
theorem infoEdge6 : (Tryz.prog.info? 47).map (fun i => (i.zero, i.size, i.bytes)) = some (some (.agg #[.slice none 0 0, .slice none 0 0, .slice none 0 0, .slice none 0 0, .string ⟨#[]⟩, .string ⟨#[]⟩]), 6, 128) := by kernel_rfl
structure SmallE (x : SR) : Prop where
  l0 : x.f0.length ≤ 1000
  l1 : x.f1.length ≤ 1000
  l2 : x.f2.length ≤ 1000
  l3 : x.f3.length ≤ 1000
set_option maxRecDepth 100000 in
set_option maxHeartbeats 16000000 in
theorem of_any (e : List SR) (d : List ByteArray) (A0 A1 : Option Addr) (c0 c1 : Nat) (w : World) (h0 : e.length ≤ c0) (g0 : Kd.C KR w A0 e.length e) (h1 : d.length ≤ c1) (g1 : Kd.C Kd.string w A1 d.length d) (hn : e.length ≤ 1000) (hd : d.length ≤ 1000) (hx : ∀ x ∈ e, SmallE x) :
    Calls Tryz.prog 7 #[.agg #[.slice A0 e.length c0, .slice A1 d.length c1]] w (OfPost (e.map conv) d w) := by
  have hu25 := Tryz.underlying25
  have hu32 := Tryz.underlying32
  have hu42 := Tryz.underlying42
  have hu47 := Tryz.underlying47
  have hG := Lib.hid g0
  have hXS := Lib.hid hx
  have hB0 : Hid (Below w.heap.size w ((w.alloc (.cells #[.slice A0 e.length c0, .slice A1 d.length c1] 25)).alloc (.cells #[.slice none 0 0, .slice none 0 0] 32))) := Lib.hid (by (repeat (first | exact Below.refl _ _ | refine Below.drew ?_ | refine Below.setCell ?_ (by simp <;> omega) _ | refine Below.alloc ?_ (by simp <;> omega) _)))
  have hb0 : Hid (((w.alloc (.cells #[.slice A0 e.length c0, .slice A1 d.length c1] 25)).alloc (.cells #[.slice none 0 0, .slice none 0 0] 32)).heap[w.heap.size]? = some (.cells #[.slice A0 e.length c0, .slice A1 d.length c1] 25 (0, 0))) := Lib.hid ((heapAt_lt (by simp only [World.size_alloc]; omega)).trans (heapAt_eq rfl))
  have hr0 : Hid (((w.alloc (.cells #[.slice A0 e.length c0, .slice A1 d.length c1] 25)).alloc (.cells #[.slice none 0 0, .slice none 0 0] 32)).heap[w.heap.size + 1]? = some (.cells #[.slice none 0 0, .slice none 0 0] 32 (0, 0))) := Lib.hid (heapAt_eq (by simp only [World.size_alloc]))
  have hz0 : ((w.alloc (.cells #[.slice A0 e.length c0, .slice A1 d.length c1] 25)).alloc (.cells #[.slice none 0 0, .slice none 0 0] 32)).heap.size = w.heap.size + 1 + 1 := by simp
  have hC1 := Lib.hid (Kd.C_below g1 (hB0.out.alloc hB0.out.size (.cells #[] 9)))
  have hF0 := Lib.hid (R_fresh ((w.alloc (.cells #[.slice A0 e.length c0, .slice A1 d.length c1] 25)).alloc (.cells #[.slice none 0 0, .slice none 0 0] 32)) (w.heap.size + 1 + 1) (by rw [hz0]; exact Nat.le_refl _))
  have hBf : Hid (Below (w.heap.size + 1 + 1) ((w.alloc (.cells #[.slice A0 e.length c0, .slice A1 d.length c1] 25)).alloc (.cells #[.slice none 0 0, .slice none 0 0] 32)) (((w.alloc (.cells #[.slice A0 e.length c0, .slice A1 d.length c1] 25)).alloc (.cells #[.slice none 0 0, .slice none 0 0] 32)).alloc (.cells #[] 9))) := Lib.hid ((Below.refl _ _).alloc (by rw [hz0]; exact Nat.le_refl _) _)
  clear g0 g1 hx
  go_enter Tryz.func7, Tryz.ntmps7
  go_wp2_with (at_builtin; go_must (refine Kd.R_append_rows Kd.string (Rr := fun (x : ByteArray) cs => cs = [.string x]) (w0 := (w.alloc (.cells #[.slice A0 e.length c0, .slice A1 d.length c1] 25)).alloc (.cells #[.slice none 0 0, .slice none 0 0] 32)) (W := ((w.alloc (.cells #[.slice A0 e.length c0, .slice A1 d.length c1] 25)).alloc (.cells #[.slice none 0 0, .slice none 0 0] 32)).alloc (.cells #[] 9)) (w.heap.size + 1 + 1) rfl _ _ 23 9 (.string ⟨#[]⟩) 16 rfl Tryz.underlying23 infoStr16 rfl (by decide) (by decide) (.slice (some ⟨w.heap.size + 1 + 1, 0, none⟩) 0 0) [] d A1 d.length c1 (fun _ => True) (fun _ => False) rfl rfl (by have := hF0.out; rw [hz0] at this; exact this) hC1.out (fun _ _ h => h) (fun _ h => h.elim) (fun _ _ => trivial) hBf.out (by simp only [World.size_alloc]; omega) (by rw [List.length_nil]; omega) ?_))
  intro v1 w1 hR hb hg hat
  obtain ⟨B1, cb, rfl⟩ := Kd.R_slice hR
  have hbox1 := Lib.hid ((hb.block _ (by omega)).trans hb0.out)
  have hres1 := Lib.hid ((hb.block _ (by omega)).trans hr0.out)
  have hB1 := Lib.hid (hB0.out.trans (hb.mono (by omega)))
  have hz1 : w.heap.size + 1 + 1 ≤ w1.heap.size := by have := hb.size; omega
  have hD1 := Lib.hid (Kd.R_lower hR (by omega : w.heap.size ≤ w.heap.size + 1 + 1))
  clear hR hb hg hat hBf hF0 hC1 hB0 hb0 hr0 hz0
  have hB2 : Hid (Below w.heap.size w (w1.alloc (.cells #[.slice none 0 0, .slice B1 d.length cb] 32))) := Lib.hid (hB1.out.alloc hB1.out.size _)
  have hbox2 : Hid ((w1.alloc (.cells #[.slice none 0 0, .slice B1 d.length cb] 32)).heap[w.heap.size]? = some (.cells #[.slice A0 e.length c0, .slice A1 d.length c1] 25 (0, 0))) := Lib.hid ((heapAt_lt (by omega)).trans hbox1.out)
  have hres2 : Hid ((w1.alloc (.cells #[.slice none 0 0, .slice B1 d.length cb] 32)).heap[w.heap.size + 1]? = some (.cells #[.slice none 0 0, .slice none 0 0] 32 (0, 0))) := Lib.hid ((heapAt_lt (by omega)).trans hres1.out)
  have hout2 : Hid ((w1.alloc (.cells #[.slice none 0 0, .slice B1 d.length cb] 32)).heap[w1.heap.size]? = some (.cells #[.slice none 0 0, .slice B1 d.length cb] 32 (0, 0))) := heap_alloc_new _ _
  have hD2 : Hid (Kd.R Kd.string 9 (w1.alloc (.cells #[.slice none 0 0, .slice B1 d.length cb] 32)) w.heap.size (fun _ => True) (.slice B1 d.length cb) d) := Lib.hid (R_kept hD1.out fun k hk => heapAt_lt (Kd.R_lt hD1.out k hk))
  obtain ⟨bo, hbo⟩ : ∃ bo, w1.heap.size = bo := ⟨_, rfl⟩
  go_wp2_with fail
  rw [hbo] at hout2
  go_loopg [4] e.length (fun gk s4 wr => ∃ (i : Nat) (A : Option Addr) (c : Nat), s4 = .int .i64 (i : Int) ∧ i + gk = e.length ∧ Hid (Below w.heap.size w wr) ∧ Hid (wr.heap[w.heap.size]? = some (.cells #[.slice A0 e.length c0, .slice A1 d.length c1] 25 (0, 0))) ∧ Hid (wr.heap[w.heap.size + 1]? = some (.cells #[.slice none 0 0, .slice none 0 0] 32 (0, 0))) ∧ Hid (wr.heap[bo]? = some (.cells #[.slice A i c, .slice B1 d.length cb] 32 (0, 0))) ∧ Hid (Kd.R Kd.string 9 wr w.heap.size (fun _ => True) (.slice B1 d.length cb) d) ∧ Hid (∃ f0 f1 f2 f3, EdgesF wr w.heap.size (.slice A i c) ((e.take i).map cvO) f0 f1 f2 f3))
  case atStart => exact ⟨0, none, 0, rfl, Nat.zero_add _, hB2, hbox2, hres2, hout2, hD2, Lib.hid ⟨_, _, _, _, EdgesF.nil _ _⟩⟩
  case round =>
    clear hB2 hbox2 hres2 hout2 hD2 hbox1 hres1 hB1 hD1
    obtain ⟨i, A, c, rfl, hik, hB, hm, hr, ho, hD, hE⟩ := hrel
    have m0 := (cell_of_heap (j := 0) hm.out).trans rfl
    have m1 := (cell_of_heap (j := 1) hm.out).trans rfl
    have r0 := (cell_of_heap (j := 0) hr.out).trans rfl
    have r1 := (cell_of_heap (j := 1) hr.out).trans rfl
    have o0 := (cell_of_heap (j := 0) ho.out).trans rfl
    have o1 := (cell_of_heap (j := 1) ho.out).trans rfl
    have rf0 := frozen_of_heap hr.out 0
    have rf1 := frozen_of_heap hr.out 1
    have z0 := lt_blk hm.out
    have z1 := lt_blk hr.out
    have z2 := lt_blk ho.out
    cases gk with
    | zero =>
      obtain rfl : i = e.length := by omega
      have hlt : decide ((e.length : Int) < (e.length : Int)) = false := by simp
      have hne : ∀ W : World, ∀ k cells t, W.heap[w.heap.size + 1]? = some (.cells #[.slice none 0 0, .slice none 0 0] 32 (0, 0)) → W.heap[k]? = some (.cells cells t (0, 0)) → t ≠ 32 → k ≠ w.heap.size + 1 := by
        rintro W k cells t h1 h2 h3 rfl
        rw [h1] at h2
        injection h2 with h2
        injection h2 with _ h2 _
        exact h3 h2.symm
      go_wp2_with fail
      refine bodyPost_ret (results_cell_row rfl _ _ (w.heap.size + 1) 32 #[.slice A e.length c, .slice B1 d.length cb] (0, 0) _ rfl (blk_put (blk_put hr.out 0 _ rfl) 1 _ rfl) Tryz.underlying32 rfl (by kernel_rfl)) rfl ?_
      have hst : ∀ k, k ≠ w.heap.size + 1 → ((wr.setCell ⟨w.heap.size + 1, 0, none⟩ (.slice A e.length c)).setCell ⟨w.heap.size + 1, 1, none⟩ (.slice B1 d.length cb)).heap[k]? = wr.heap[k]? := fun k hk => by rw [Below.heap_setCell _ _ _ k hk, Below.heap_setCell _ _ _ k hk]
      have hBf : Below w.heap.size w ((wr.setCell ⟨w.heap.size + 1, 0, none⟩ (.slice A e.length c)).setCell ⟨w.heap.size + 1, 1, none⟩ (.slice B1 d.length cb)) := (hB.out.setCell (by show _ ≤ w.heap.size + 1; omega) _).setCell (by show _ ≤ w.heap.size + 1; omega) _
      generalize (wr.setCell ⟨w.heap.size + 1, 0, none⟩ (.slice A e.length c)).setCell ⟨w.heap.size + 1, 1, none⟩ (.slice B1 d.length cb) = wf at *
      obtain ⟨f0, f1, f2, f3, hEF⟩ := hE.out
      have hEF' := hEF.move (w' := wf) (fun k cells t hk ht => hst k (hne wr k cells t hr.out hk (by rcases ht with rfl | rfl <;> decide)))
      rw [List.take_length] at hEF'
      obtain ⟨A', c', he, q0, q1⟩ := edges_C hEF'.at
      have hmm : (e.map cvO).map toS = e.map conv := by
        rw [List.map_map]; exact List.map_congr_left fun a _ => toS_cvO a
      rw [hmm] at he q0 q1
      injection he with e1 _ e3
      subst e1 e3
      have hD' := R_kept (w' := wf) hD.out fun k hk => by
        obtain ⟨inner, hin⟩ := Kd.R_own hD.out
        obtain ⟨cs, hcs⟩ := own_typed hin k hk
        exact hst k (hne wr k cs _ hr.out hcs (by decide))
      obtain ⟨A2, c2, he2, q2, q3⟩ := Kd.R_reads hD'
      injection he2 with e1 _ e3
      subst e1 e3
      exact ⟨A, c, B1, cb, by rw [List.length_map], ⟨q0, q1⟩, ⟨q2, q3⟩, hBf⟩
    | succ gk =>
      have hi : i < e.length := by omega
      have hlt : decide ((i : Int) < (e.length : Int)) = true := by rw [decide_eq_true_iff]; omega
      have i1 : (0 : Int) ≤ (i : Int) := by omega
      have i2 : (i : Int) < (e.length : Int) := by omega
      obtain ⟨ad, a0, d0, a1, d1, a2, d2, a3, d3, rfl, k0, k1, k2, k3, k4, k5, l0, g0, l1, g1, l2, g2, l3, g3⟩ := at_T42 hG.out (i : Int) i1 (by omega)
      rw [Int.toNat_natCast] at k0 k1 k2 k3 k4 k5
      have hx0 : rd_T42 e (i : Int) = e[i] := by
        show e.getD (i : Int).toNat _ = _
        rw [Int.toNat_natCast, List.getD_eq_getElem?_getD, List.getElem?_eq_getElem hi]; rfl
      rw [hx0] at k0 k1 k2 k3 k4 k5 l0 g0 l1 g1 l2 g2 l3 g3
      have hsm := Lib.hid (hXS.out e[i] (List.getElem_mem hi))
      have htk : Hid (e.take (i + 1) = e.take i ++ [e[i]]) := List.take_succ_eq_append_getElem hi
      generalize e[i] = x at *
      replace k0 := below_cell hB.out k0
      replace k1 := below_cell hB.out k1
      replace k2 := below_cell hB.out k2
      replace k3 := below_cell hB.out k3
      replace k4 := below_cell hB.out k4
      replace k5 := below_cell hB.out k5
      have hg0 := Lib.hid (fun W (hW : Below w.heap.size w W) => Kd.C_below g0 hW)
      have hg1 := Lib.hid (fun W (hW : Below w.heap.size w W) => Kd.C_below g1 hW)
      have hg2 := Lib.hid (fun W (hW : Below w.heap.size w W) => Kd.C_below g2 hW)
      have hg3 := Lib.hid (fun W (hW : Below w.heap.size w W) => Kd.C_below g3 hW)
      clear g0 g1 g2 g3 hx0 r0 r1 rf0 rf1
      have hW5 : Hid (Below w.heap.size w (wr.alloc (.cells #[.slice a0 x.f0.length d0, .slice a1 x.f1.length d1, .slice a2 x.f2.length d2, .slice a3 x.f3.length d3, .string x.f4, .string x.f5] 42))) := Lib.hid (hB.out.alloc hB.out.size _)
      have hEc : Hid ((wr.alloc (.cells #[.slice a0 x.f0.length d0, .slice a1 x.f1.length d1, .slice a2 x.f2.length d2, .slice a3 x.f3.length d3, .string x.f4, .string x.f5] 42)).heap[wr.heap.size]? = some (.cells #[.slice a0 x.f0.length d0, .slice a1 x.f1.length d1, .slice a2 x.f2.length d2, .slice a3 x.f3.length d3, .string x.f4, .string x.f5] 42 (0, 0))) := heap_alloc_new _ _
      have hm5 := Lib.hid ((heapAt_lt (o := .cells #[.slice a0 x.f0.length d0, .slice a1 x.f1.length d1, .slice a2 x.f2.length d2, .slice a3 x.f3.length d3, .string x.f4, .string x.f5] 42) z0).trans hm.out)
      have hr5 := Lib.hid ((heapAt_lt (o := .cells #[.slice a0 x.f0.length d0, .slice a1 x.f1.length d1, .slice a2 x.f2.length d2, .slice a3 x.f3.length d3, .string x.f4, .string x.f5] 42) z1).trans hr.out)
      have ho5 := Lib.hid ((heapAt_lt (o := .cells #[.slice a0 x.f0.length d0, .slice a1 x.f1.length d1, .slice a2 x.f2.length d2, .slice a3 x.f3.length d3, .string x.f4, .string x.f5] 42) z2).trans ho.out)
      have hD5 : Hid (Kd.R Kd.string 9 (wr.alloc (.cells #[.slice a0 x.f0.length d0, .slice a1 x.f1.length d1, .slice a2 x.f2.length d2, .slice a3 x.f3.length d3, .string x.f4, .string x.f5] 42)) w.heap.size (fun _ => True) (.slice B1 d.length cb) d) := Lib.hid (R_kept hD.out fun k hk => heapAt_lt (Kd.R_lt hD.out k hk))
      have hE5 : Hid (∃ f0 f1 f2 f3, EdgesF (wr.alloc (.cells #[.slice a0 x.f0.length d0, .slice a1 x.f1.length d1, .slice a2 x.f2.length d2, .slice a3 x.f3.length d3, .string x.f4, .string x.f5] 42)) w.heap.size (.slice A i c) ((e.take i).map cvO) f0 f1 f2 f3) := by
        obtain ⟨f0, f1, f2, f3, hh⟩ := hE.out
        exact ⟨f0, f1, f2, f3, hh.move fun k cs t hk _ => heapAt_lt (lt_blk hk)⟩
      have hbe : wr.heap.size < (wr.alloc (.cells #[.slice a0 x.f0.length d0, .slice a1 x.f1.length d1, .slice a2 x.f2.length d2, .slice a3 x.f3.length d3, .string x.f4, .string x.f5] 42)).heap.size := by simp
      go_upto_region 6 with (fail)
      clear hm hr ho hD hE k0 k1 k2 k3 k4 k5 m0 m1 o0 o1 hB
      obtain ⟨be, hbeq⟩ : ∃ be, wr.heap.size = be := ⟨_, rfl⟩
      generalize wr.alloc (.cells #[.slice a0 x.f0.length d0, .slice a1 x.f1.length d1, .slice a2 x.f2.length d2, .slice a3 x.f3.length d3, .string x.f4, .string x.f5] 42) = W5 at *
      rw [hbeq] at hEc hbe ⊢
      clear hbeq z0 z1 z2
      have hS : Hid (∀ W, Below W5.heap.size W5 W → (fun w' => w'.cell? ⟨be, 0, none⟩ = some (.slice a0 x.f0.length d0) ∧ w'.cell? ⟨be, 1, none⟩ = some (.slice a1 x.f1.length d1) ∧ w'.cell? ⟨be, 2, none⟩ = some (.slice a2 x.f2.length d2) ∧ w'.cell? ⟨be, 3, none⟩ = some (.slice a3 x.f3.length d3) ∧ w'.cell? ⟨be, 4, none⟩ = some (.string x.f4) ∧ w'.cell? ⟨be, 5, none⟩ = some (.string x.f5) ∧ w'.cell? ⟨bo, 0, none⟩ = some (.slice A i c)) W) := Lib.hid (fun W hW => ⟨(cell_of_heap (j := 0) ((hW.block _ (lt_blk hEc.out)).trans hEc.out)).trans rfl, (cell_of_heap (j := 1) ((hW.block _ (lt_blk hEc.out)).trans hEc.out)).trans rfl, (cell_of_heap (j := 2) ((hW.block _ (lt_blk hEc.out)).trans hEc.out)).trans rfl, (cell_of_heap (j := 3) ((hW.block _ (lt_blk hEc.out)).trans hEc.out)).trans rfl, (cell_of_heap (j := 4) ((hW.block _ (lt_blk hEc.out)).trans hEc.out)).trans rfl, (cell_of_heap (j := 5) ((hW.block _ (lt_blk hEc.out)).trans hEc.out)).trans rfl, (cell_of_heap (j := 0) ((hW.block _ (lt_blk ho5.out)).trans ho5.out)).trans rfl⟩)
      have hO : Hid (∀ W, Below W5.heap.size W5 W → W.heap[bo]? = some (.cells #[.slice A i c, .slice B1 d.length cb] 32 (0, 0))) := Lib.hid (fun W hW => (hW.block _ (lt_blk ho5.out)).trans ho5.out)
      refine RegI.regionI (fun w' => w'.cell? ⟨be, 0, none⟩ = some (.slice a0 x.f0.length d0) ∧ w'.cell? ⟨be, 1, none⟩ = some (.slice a1 x.f1.length d1) ∧ w'.cell? ⟨be, 2, none⟩ = some (.slice a2 x.f2.length d2) ∧ w'.cell? ⟨be, 3, none⟩ = some (.slice a3 x.f3.length d3) ∧ w'.cell? ⟨be, 4, none⟩ = some (.string x.f4) ∧ w'.cell? ⟨be, 5, none⟩ = some (.string x.f5) ∧ w'.cell? ⟨bo, 0, none⟩ = some (.slice A i c)) 26 [(0, 0), (1, 1), (0, 3), (1, 4), (0, 7), (1, 8), (0, 11), (1, 12), (0, 15), (1, 16), (0, 18), (1, 19), (0, 20), (1, 21)] [(0, 22), (2, 23), (2, 24), (0, 25), (3, 26)] 8 (Larr true true true true true true true true) (fun n l a W => ∃ (b p : Fin 4 → Bool) (X Y v : Fin 4 → Value), l = Larr (b 0) (p 0) (b 1) (p 1) (b 2) (p 2) (b 3) (p 3) ∧ a = { tmps := #[.agg #[.slice (some ad) e.length c0, .slice A1 d.length c1], .pointer (some ⟨w.heap.size, 0, none⟩), .pointer (some ⟨w.heap.size + 1, 0, none⟩), .pointer (some ⟨bo, 0, none⟩), .int .i64 (i : Int), .pointer (some ⟨be, 0, none⟩), .slice (some ⟨w.heap.size + 1 + 1, 0, none⟩) 0 0, .pointer (some ⟨w.heap.size, 1, none⟩), .slice A1 d.length c1, .slice B1 d.length cb, .agg #[.slice none 0 0, .slice B1 d.length cb], .int .i64 (i : Int), .pointer (some ⟨w.heap.size, 0, none⟩), .slice (some ad) e.length c0, .int .i64 (e.length : Int), .bool true, u16, u17, .pointer (some ⟨w.heap.size, 0, none⟩), .slice (some ad) e.length c0, .int .i64 (i : Int), .pointer (some (ad.add (i * 6))), .agg #[.slice a0 x.f0.length d0, .slice a1 x.f1.length d1, .slice a2 x.f2.length d2, .slice a3 x.f3.length d3, .string x.f4, .string x.f5], .pointer (some ⟨bo, 0, none⟩), .slice A i c, X 0, .pointer (some ⟨be, 0, none⟩), .slice a0 x.f0.length d0, Y 0, X 1, .pointer (some ⟨be, 1, none⟩), .slice a1 x.f1.length d1, Y 1, X 2, .pointer (some ⟨be, 2, none⟩), .slice a2 x.f2.length d2, Y 2, X 3, .pointer (some ⟨be, 3, none⟩), .slice a3 x.f3.length d3, Y 3, .pointer (some ⟨be, 4, none⟩), .string x.f4, .pointer (some ⟨be, 5, none⟩), .string x.f5, u45, u46, u47, u48, undef], defers := [] } ∧ I4 W5 (sel4 x.f0 x.f1 x.f2 x.f3) n b p X Y v W)
        (by kernel_rfl) (by kernel_rfl) (by rfl) (by kernel_rfl) (by kernel_rfl) (by exact hS.out _ (Below.refl _ _).drew) ?hd ?hst ?hpre
      case hpre =>
        refine RegI.p0 (by (simp only [gA,gB,gC]); rfl) (by exact fun _ _ _ h => h) (by rfl) (by intro w'; go_simp; try with_reducible rfl) ?_
        try simp only [Act.put, pA,pB,pC]
        refine RegI.p1 (by (simp only [gA,gB,gC]); rfl) (by exact fun _ _ _ h => h) (by rfl) (by intro w' hS_; (try dsimp only at hS_); go_split_ands; go_simp; try with_reducible rfl) ?_
        try simp only [Act.put, pA,pB,pC]
        refine RegI.p0 (by (simp only [gA,gB,gC]); rfl) (by exact fun _ _ _ h => h) (by rfl) (by intro w'; go_simp; try with_reducible rfl) ?_
        try simp only [Act.put, pA,pB,pC]
        refine RegI.p1 (by (simp only [gA,gB,gC]); rfl) (by exact fun _ _ _ h => h) (by rfl) (by intro w' hS_; (try dsimp only at hS_); go_split_ands; go_simp; try with_reducible rfl) ?_
        try simp only [Act.put, pA,pB,pC]
        refine RegI.p0 (by (simp only [gA,gB,gC]); rfl) (by exact fun _ _ _ h => h) (by rfl) (by intro w'; go_simp; try with_reducible rfl) ?_
        try simp only [Act.put, pA,pB,pC]
        refine RegI.p1 (by (simp only [gA,gB,gC]); rfl) (by exact fun _ _ _ h => h) (by rfl) (by intro w' hS_; (try dsimp only at hS_); go_split_ands; go_simp; try with_reducible rfl) ?_
        try simp only [Act.put, pA,pB,pC]
        refine RegI.p0 (by (simp only [gA,gB,gC]); rfl) (by exact fun _ _ _ h => h) (by rfl) (by intro w'; go_simp; try with_reducible rfl) ?_
        try simp only [Act.put, pA,pB,pC]
        refine RegI.p1 (by (simp only [gA,gB,gC]); rfl) (by exact fun _ _ _ h => h) (by rfl) (by intro w' hS_; (try dsimp only at hS_); go_split_ands; go_simp; try with_reducible rfl) ?_
        try simp only [Act.put, pA,pB,pC]
        refine RegI.p0 (by (simp only [gA,gB,gC]); rfl) (by exact fun _ _ _ h => h) (by rfl) (by intro w'; go_simp; try with_reducible rfl) ?_
        try simp only [Act.put, pA,pB,pC]
        refine RegI.p1 (by (simp only [gA,gB,gC]); rfl) (by exact fun _ _ _ h => h) (by rfl) (by intro w' hS_; (try dsimp only at hS_); go_split_ands; go_simp; try with_reducible rfl) ?_
        try simp only [Act.put, pA,pB,pC]
        refine RegI.p0 (by (simp only [gA,gB,gC]); rfl) (by exact fun _ _ _ h => h) (by rfl) (by intro w'; go_simp; try with_reducible rfl) ?_
        try simp only [Act.put, pA,pB,pC]
        refine RegI.p1 (by (simp only [gA,gB,gC]); rfl) (by exact fun _ _ _ h => h) (by rfl) (by intro w' hS_; (try dsimp only at hS_); go_split_ands; go_simp; try with_reducible rfl) ?_
        try simp only [Act.put, pA,pB,pC]
        refine RegI.p0 (by (simp only [gA,gB,gC]); rfl) (by exact fun _ _ _ h => h) (by rfl) (by intro w'; go_simp; try with_reducible rfl) ?_
        try simp only [Act.put, pA,pB,pC]
        refine RegI.p1 (by (simp only [gA,gB,gC]); rfl) (by exact fun _ _ _ h => h) (by rfl) (by intro w' hS_; (try dsimp only at hS_); go_split_ands; go_simp; try with_reducible rfl) ?_
        try simp only [Act.put, pA,pB,pC]
        refine RegI.pe ⟨fun _ => false, fun _ => false, sel4 u25 u29 u33 u37, sel4 u28 u32 u36 u40, fun _ => .bool false, rfl, rfl, rfl, fun _ h => h, fun _ h => (by cases h), fun _ h => (by cases h), ⟨fun _ h => (by cases h), fun _ _ => rfl, fun _ _ _ _ h => (by cases h)⟩, (Below.refl _ _).drew⟩
      case hd =>
        rintro l a W ⟨b, p, X, Y, v, rfl, rfl, hI⟩
        obtain ⟨eb0, ep0, hy0⟩ := hI.done 0
        obtain ⟨eb1, ep1, hy1⟩ := hI.done 1
        obtain ⟨eb2, ep2, hy2⟩ := hI.done 2
        obtain ⟨eb3, ep3, hy3⟩ := hI.done 3
        refine ⟨by rw [eb0, eb1, eb2, eb3, ep0, ep1, ep2, ep3], hS.out _ hI.bel, ?_⟩
        have hIH := Lib.hid hI
        have hWW := Lib.hid (hW5.out.trans (hI.bel.mono hW5.out.size))
        have hWs : w.heap.size ≤ W.heap.size := hWW.out.size
        have hEW : Hid (∃ f0 f1 f2 f3, EdgesF W w.heap.size (.slice A i c) ((e.take i).map cvO) f0 f1 f2 f3) := by
          obtain ⟨f0, f1, f2, f3, hh⟩ := hE5.out
          exact ⟨f0, f1, f2, f3, hh.move fun k cs t hk _ => hI.bel.block _ (lt_blk hk)⟩
        have hDW : Hid (Kd.R Kd.string 9 W w.heap.size (fun _ => True) (.slice B1 d.length cb) d) := Lib.hid (R_kept hD5.out fun k hk => hI.bel.block _ (Kd.R_lt hD5.out k hk))
        have hmW := Lib.hid ((hI.bel.block _ (lt_blk hm5.out)).trans hm5.out)
        have hrW := Lib.hid ((hI.bel.block _ (lt_blk hr5.out)).trans hr5.out)
        have hoW := Lib.hid ((hI.bel.block _ (lt_blk ho5.out)).trans ho5.out)
        have heW := Lib.hid ((hI.bel.block _ (lt_blk hEc.out)).trans hEc.out)
        have hle : w.heap.size ≤ W5.heap.size := hW5.out.size
        have hr_0 := Lib.hid (own_of_Rs (Kd.R_lower hy0 hle))
        have hr_1 := Lib.hid (own_of_Rs (Kd.R_lower hy1 hle))
        have hr_2 := Lib.hid (own_of_Rs (Kd.R_lower hy2 hle))
        have hr_3 := Lib.hid (own_of_Rs (Kd.R_lower hy3 hle))
        obtain ⟨Y0, y0, hY0⟩ := Kd.R_slice hy0
        obtain ⟨Y1, y1, hY1⟩ := Kd.R_slice hy1
        obtain ⟨Y2, y2, hY2⟩ := Kd.R_slice hy2
        obtain ⟨Y3, y3, hY3⟩ := Kd.R_slice hy3
        rw [hY0] at hr_0
        rw [hY1] at hr_1
        rw [hY2] at hr_2
        rw [hY3] at hr_3
        have hln : ((e.take i).map cvO).length = i := by rw [List.length_map, List.length_take]; omega
        clear hI hy0 hy1 hy2 hy3 hD5 hE5 hm5 hr5 ho5 hO
        refine RegP.pure1 (by (simp only [gA,gB,gC]); rfl) (by exact fun _ _ _ h => h) (by rfl) (by intro w'; go_simp; try with_reducible rfl) ?_
        try simp only [Act.put, pA,pB,pC]
        refine RegP.ev1 (by (simp only [gA,gB,gC]); rfl) (fun K hK => ?_)
        go_simp
        refine hK.out _ _ ?_ (fun hHeld => ?_)
        · exact hS.out _ (hIH.out.bel.alloc hIH.out.bel.size _)
        clear hK K hHeld
        try simp only [Act.put, pA,pB,pC]
        refine RegP.ev1 (by (simp only [gA,gB,gC]); rfl) (fun K hK => ?_)
        obtain ⟨f0, f1, f2, f3, hEF⟩ := hEW.out
        refine step_append_cells (w0 := w) (W := W) w.heap.size rfl _ _ 30 47 (.agg #[.slice none 0 0, .slice none 0 0, .slice none 0 0, .slice none 0 0, .string ⟨#[]⟩, .string ⟨#[]⟩]) 6 128 rfl Tryz.underlying30 infoEdge6 rfl (by decide) (by decide) (.slice A i c) i _ [.slice Y0 (sel4 x.f0 x.f1 x.f2 x.f3 0).length y0, .slice Y1 (sel4 x.f0 x.f1 x.f2 x.f3 1).length y1, .slice Y2 (sel4 x.f0 x.f1 x.f2 x.f3 2).length y2, .slice Y3 (sel4 x.f0 x.f1 x.f2 x.f3 3).length y3, .string x.f4, .string x.f5] rfl rfl rfl (by intro u hu; simp only [List.mem_cons, List.not_mem_nil, or_false] at hu; rcases hu with rfl | rfl | rfl | rfl | rfl | rfl <;> rfl) (by have := hEF.1; rw [hln] at this; exact this) hWW.out hWs (by omega) ?_
        intro v9 w9 ho hb hg hat
        obtain ⟨A9, c9, rfl⟩ := own_rowN ho
        have hkeep : ∀ (k : Nat) (cells : Array Value) (t : TypeId), W.heap[k]? = some (.cells cells t (0, 0)) → t ≠ 47 → w9.heap[k]? = some (.cells cells t (0, 0)) := fun k cells t hk ht => (hg.block k (lt_blk hk) (fun q => by
          obtain ⟨cs', hcs'⟩ := own_typed hEF.1 k q.symm
          rw [hk] at hcs'
          injection hcs' with q
          injection q with _ q _
          exact ht q)).trans hk
        have hEF9 := Lib.hid (hEF.snoc (cvO x) hr_0.out hr_1.out hr_2.out hr_3.out (by rw [hln]; show World.ownsRow _ _ _ _ _ _ (_ ++ [_, _, _, _, .string (B (toL x.f4)), .string (B (toL x.f5))]); rw [B_toL, B_toL]; exact ho) hg)
        have he9 := Lib.hid (hkeep _ _ _ heW.out (by decide))
        have ho9 := Lib.hid (hkeep _ _ _ hoW.out (by decide))
        have hm9 := Lib.hid (hkeep _ _ _ hmW.out (by decide))
        have hr9 := Lib.hid (hkeep _ _ _ hrW.out (by decide))
        have hD9 : Hid (Kd.R Kd.string 9 w9 w.heap.size (fun _ => True) (.slice B1 d.length cb) d) := Lib.hid (R_kept hDW.out fun k hk => by
          obtain ⟨inner, hin⟩ := Kd.R_own hDW.out
          obtain ⟨cs, hcs⟩ := own_typed hin k hk
          exact (hkeep k cs _ hcs (by decide)).trans hcs.symm)
        have hb9 := Lib.hid hb
        have o9 := (cell_of_heap (j := 0) ho9.out).trans rfl
        have of9 := frozen_of_heap ho9.out 0
        clear hkeep ho hb hg hat hEF
        refine hK.out _ _ ?_ (fun hHeld => ?_)
        · exact ⟨(cell_of_heap (j := 0) he9.out).trans rfl, (cell_of_heap (j := 1) he9.out).trans rfl, (cell_of_heap (j := 2) he9.out).trans rfl, (cell_of_heap (j := 3) he9.out).trans rfl, (cell_of_heap (j := 4) he9.out).trans rfl, (cell_of_heap (j := 5) he9.out).trans rfl, (cell_of_heap (j := 0) ho9.out).trans rfl⟩
        clear hK K hHeld
        try simp only [Act.put, pA,pB,pC]
        refine RegP.pure1 (by (simp only [gA,gB,gC]); rfl) (by exact fun _ _ _ h => h) (by rfl) (by intro w'; go_simp; try with_reducible rfl) ?_
        try simp only [Act.put, pA,pB,pC]
        refine RegP.last1 (by (simp only [gA,gB,gC]); rfl) (fun K hK => ?_)
        go_simp
        refine hK.out _ _ ?_
        clear hK K
        try simp only [Act.put, pA,pB,pC]
        refine RegP.done1 ?_
        have hbw : w.heap.size < bo := by omega
        have hbr : w.heap.size + 1 < bo := by omega
        have hst : ∀ k : Nat, k ≠ bo → (w9.setCell ⟨bo, 0, none⟩ (.slice A9 (i + 1) c9)).heap[k]? = w9.heap[k]? := fun k hk => Below.heap_setCell _ _ _ k hk
        have hty : ∀ (k : Nat) (cs : Array Value) (t : TypeId), w9.heap[k]? = some (.cells cs t (0, 0)) → t ≠ 32 → k ≠ bo := by
          rintro k cs t h1 h2 rfl
          rw [ho9.out] at h1
          injection h1 with h1
          injection h1 with _ h1 _
          exact h2 h1.symm
        have hB10 : Hid (Below w.heap.size w (w9.setCell ⟨bo, 0, none⟩ (.slice A9 (i + 1) c9))) := Lib.hid (hb9.out.setCell (by show _ ≤ bo; omega) _)
        have hm10 := Lib.hid ((hst _ (by omega)).trans hm9.out)
        have hr10 := Lib.hid ((hst _ (by omega)).trans hr9.out)
        have ho10 := Lib.hid (blk_put ho9.out 0 (.slice A9 (i + 1) c9) rfl)
        have hD10 : Hid (Kd.R Kd.string 9 (w9.setCell ⟨bo, 0, none⟩ (.slice A9 (i + 1) c9)) w.heap.size (fun _ => True) (.slice B1 d.length cb) d) := Lib.hid (R_kept hD9.out fun k hk => by
          obtain ⟨inner, hin⟩ := Kd.R_own hD9.out
          obtain ⟨cs, hcs⟩ := own_typed hin k hk
          exact hst k (hty k cs _ hcs (by decide)))
        have hE10 : Hid (∃ f0 f1 f2 f3, EdgesF (w9.setCell ⟨bo, 0, none⟩ (.slice A9 (i + 1) c9)) w.heap.size (.slice A9 (i + 1) c9) ((e.take (i + 1)).map cvO) f0 f1 f2 f3) := by
          rw [htk.out, List.map_append, List.map_cons, List.map_nil]
          exact Lib.hid ⟨_, _, _, _, hEF9.out.move fun k cs t hk ht => hst k (hty k cs t hk (by rcases ht with rfl | rfl <;> decide))⟩
        clear hst hty hD9 hr9 hm9 ho9 he9 o9 of9 hb9 hEF9 hEW hDW hmW hrW hoW heW hr_0 hr_1 hr_2 hr_3 hS hIH hWW
        go_wp2_with fail
        go_roundg gk
        case measure => omega
        case rel => exact ⟨i + 1, A9, c9, by simp, by omega, hB10, hm10, hr10, ho10, hD10, hE10⟩
      case hst =>
        rintro n l a W ⟨b, p, X, Y, v, rfl, rfl, hI⟩
        have hIH := Lib.hid hI
        refine ready_step (R := rdy (b 0) (p 0) (b 1) (p 1) (b 2) (p 2) (b 3) (p 3)) (by generalize b 0 = b0; generalize b 1 = b1; generalize b 2 = b2; generalize b 3 = b3; generalize p 0 = p0; generalize p 1 = p1; generalize p 2 = p2; generalize p 3 = p3; revert b0 p0 b1 p1 b2 p2 b3 p3; decide +kernel) (rdy_ne _ _ _ _ _ _ _ _) (fun q hq => ?_)
        have hq := rdy_mem hq hI.nempty
        clear hI
        rcases hq with ((⟨rfl, hj⟩ | ⟨rfl, hj, hj'⟩) | (⟨rfl, hj⟩ | ⟨rfl, hj, hj'⟩) | (⟨rfl, hj⟩ | ⟨rfl, hj, hj'⟩) | (⟨rfl, hj⟩ | ⟨rfl, hj, hj'⟩))
        · refine wpOp_shut (by (simp only [gA,gB,gC]); rfl) (fun K hK => ?_)
          go_simp
          refine hK.out _ _ ⟨hS.out _ (hIH.out.alloc 0 hj).bel, ⟨_, _, _, _, _, ?_, ?_, hIH.out.alloc 0 hj⟩⟩
          · rfl
          · rfl
        · refine wpOp_shut (by (simp only [gA,gB,gC]); rfl) (fun K hK => ?_)
          refine Kd.R_append_rows_step Kd.string (Rr := fun (x : ByteArray) cs => cs = [.string x]) (w0 := W5) W5.heap.size (by rfl) _ _ 23 9 (.string ⟨#[]⟩) 16 rfl Tryz.underlying23 infoStr16 rfl (by decide) (by decide) (v 0) [] x.f0 a0 x.f0.length d0 (fun _ => True) (fun _ => False) (by rw [← hIH.out.X 0 hj hj']; rfl) rfl (hIH.out.row 0 hj hj') (hg0.out _ (hW5.out.trans (hIH.out.bel.mono hW5.out.size))) (fun _ _ h => h) (fun _ h => h.elim) (fun _ _ => trivial) hIH.out.bel hIH.out.bel.size (by have := hsm.out.l0; rw [List.length_nil]; omega) ?_
          intro v1 w1 hR hb hg hat
          have hIn := hIH.out.append 0 hj hj' hR hb hg hat
          refine hK.out _ _ ⟨hS.out _ hb, ⟨_, _, _, _, _, ?_, ?_, hIn⟩⟩
          · rfl
          · rfl
        · refine wpOp_shut (by (simp only [gA,gB,gC]); rfl) (fun K hK => ?_)
          go_simp
          refine hK.out _ _ ⟨hS.out _ (hIH.out.alloc 1 hj).bel, ⟨_, _, _, _, _, ?_, ?_, hIH.out.alloc 1 hj⟩⟩
          · rfl
          · rfl
        · refine wpOp_shut (by (simp only [gA,gB,gC]); rfl) (fun K hK => ?_)
          refine Kd.R_append_rows_step Kd.string (Rr := fun (x : ByteArray) cs => cs = [.string x]) (w0 := W5) W5.heap.size (by rfl) _ _ 23 9 (.string ⟨#[]⟩) 16 rfl Tryz.underlying23 infoStr16 rfl (by decide) (by decide) (v 1) [] x.f1 a1 x.f1.length d1 (fun _ => True) (fun _ => False) (by rw [← hIH.out.X 1 hj hj']; rfl) rfl (hIH.out.row 1 hj hj') (hg1.out _ (hW5.out.trans (hIH.out.bel.mono hW5.out.size))) (fun _ _ h => h) (fun _ h => h.elim) (fun _ _ => trivial) hIH.out.bel hIH.out.bel.size (by have := hsm.out.l1; rw [List.length_nil]; omega) ?_
          intro v1 w1 hR hb hg hat
          have hIn := hIH.out.append 1 hj hj' hR hb hg hat
          refine hK.out _ _ ⟨hS.out _ hb, ⟨_, _, _, _, _, ?_, ?_, hIn⟩⟩
          · rfl
          · rfl
        · refine wpOp_shut (by (simp only [gA,gB,gC]); rfl) (fun K hK => ?_)
          go_simp
          refine hK.out _ _ ⟨hS.out _ (hIH.out.alloc 2 hj).bel, ⟨_, _, _, _, _, ?_, ?_, hIH.out.alloc 2 hj⟩⟩
          · rfl
          · rfl
        · refine wpOp_shut (by (simp only [gA,gB,gC]); rfl) (fun K hK => ?_)
          refine Kd.R_append_rows_step Kd.string (Rr := fun (x : ByteArray) cs => cs = [.string x]) (w0 := W5) W5.heap.size (by rfl) _ _ 23 9 (.string ⟨#[]⟩) 16 rfl Tryz.underlying23 infoStr16 rfl (by decide) (by decide) (v 2) [] x.f2 a2 x.f2.length d2 (fun _ => True) (fun _ => False) (by rw [← hIH.out.X 2 hj hj']; rfl) rfl (hIH.out.row 2 hj hj') (hg2.out _ (hW5.out.trans (hIH.out.bel.mono hW5.out.size))) (fun _ _ h => h) (fun _ h => h.elim) (fun _ _ => trivial) hIH.out.bel hIH.out.bel.size (by have := hsm.out.l2; rw [List.length_nil]; omega) ?_
          intro v1 w1 hR hb hg hat
          have hIn := hIH.out.append 2 hj hj' hR hb hg hat
          refine hK.out _ _ ⟨hS.out _ hb, ⟨_, _, _, _, _, ?_, ?_, hIn⟩⟩
          · rfl
          · rfl
        · refine wpOp_shut (by (simp only [gA,gB,gC]); rfl) (fun K hK => ?_)
          go_simp
          refine hK.out _ _ ⟨hS.out _ (hIH.out.alloc 3 hj).bel, ⟨_, _, _, _, _, ?_, ?_, hIH.out.alloc 3 hj⟩⟩
          · rfl
          · rfl
        · refine wpOp_shut (by (simp only [gA,gB,gC]); rfl) (fun K hK => ?_)
          refine Kd.R_append_rows_step Kd.string (Rr := fun (x : ByteArray) cs => cs = [.string x]) (w0 := W5) W5.heap.size (by rfl) _ _ 23 9 (.string ⟨#[]⟩) 16 rfl Tryz.underlying23 infoStr16 rfl (by decide) (by decide) (v 3) [] x.f3 a3 x.f3.length d3 (fun _ => True) (fun _ => False) (by rw [← hIH.out.X 3 hj hj']; rfl) rfl (hIH.out.row 3 hj hj') (hg3.out _ (hW5.out.trans (hIH.out.bel.mono hW5.out.size))) (fun _ _ h => h) (fun _ h => h.elim) (fun _ _ => trivial) hIH.out.bel hIH.out.bel.size (by have := hsm.out.l3; rw [List.length_nil]; omega) ?_
          intro v1 w1 hR hb hg hat
          have hIn := hIH.out.append 3 hj hj' hR hb hg hat
          refine hK.out _ _ ⟨hS.out _ hb, ⟨_, _, _, _, _, ?_, ?_, hIn⟩⟩
          · rfl
          · rfl
end Go.Proofs.YtbjekebkgidhaaaGreatDoor.Of4
end
section
set_option linter.unusedSimpArgs false
set_option linter.unusedVariables false
namespace Go.Proofs.YtbjekebkgidhaaaGreatDoor.Mf
open Go.RowKit Go.Lib Go.Shelf Go.Maps Go.Proofs.YtbjekebkgidhaaaGreatDoorW.PrintWords Go.Proofs.YtbjekebkgidhaaaGreatDoor.U Go.Proofs.YtbjekebkgidhaaaGreatDoor.Sc Go.Proofs.YtbjekebkgidhaaaGreatDoor.P Go.Proofs.YtbjekebkgidhaaaGreatDoor.MapV
abbrev at0' (b : Nat) : Value := .pointer (some ⟨b, 0, none⟩)
theorem two_fst (w : World) (X Y : Obj) : ((w.alloc X).alloc Y).drew.heap[w.heap.size]? = some X := by
  show ((w.alloc X).alloc Y).heap[w.heap.size]? = some X
  exact (heapAt_lt (by simp only [World.size_alloc]; omega)).trans (heapAt_eq rfl)
theorem two_snd (w : World) (X Y : Obj) : ((w.alloc X).alloc Y).drew.heap[w.heap.size + 1]? = some Y := by
  show ((w.alloc X).alloc Y).heap[w.heap.size + 1]? = some Y
  exact heapAt_eq (by simp only [World.size_alloc])
theorem strC_at {w : World} {A : Option Addr} {n : Nat} {xs : List ByteArray} (h : Kd.C Kd.string w A n xs) (i : Nat) (hi : i < xs.length) : ∃ ad, A = some ad ∧ w.cell? (ad.add i) = some (.string xs[i]) := by
  obtain ⟨ad, e, hc⟩ := h.2.2 (by have := h.1; omega)
  obtain ⟨c, hs, hr, hcell⟩ := hc i _ (List.getElem?_eq_getElem hi)
  replace hr : c = [.string xs[i]] := hr
  subst hr
  refine ⟨ad, e, ?_⟩
  have := hcell 0 _ rfl
  rw [show i * Kd.string.sz + 0 = i from Nat.mul_one i] at this
  exact this
set_option maxRecDepth 100000 in
set_option maxHeartbeats 8000000 in
theorem names_C (l : List ByteArray) (A0 A1 : Option Addr) (c0 c1 : Nat) (w : World) (h0 : l.length ≤ c0) (g0 : Kd.C Kd.string w A0 l.length l) (h1 : l.length ≤ c1) (g1 : Kd.C Kd.string w A1 l.length l) :
    Calls Tryz.prog 24 #[.slice A0 l.length c0, .slice A1 l.length c1] w fun e w' => e = .returned (.bool true) ∧ Below w.heap.size w w' := by
  have hG0 := Lib.hid g0
  have hG1 := Lib.hid g1
  have hl := g0.2.1
  clear g0 g1
  go_enter Tryz.func24, Tryz.ntmps24
  go_wp2_with fail
  go_loopg [5] l.length (fun gk s5 wr => ∃ i : Nat, s5 = .int .i64 (i : Int) ∧ i + gk = l.length ∧ Hid (Below w.heap.size w wr))
  case atStart => exact ⟨0, rfl, Nat.zero_add _, Below.refl _ _⟩
  case round =>
    obtain ⟨i, rfl, hik, hB⟩ := hrel
    cases gk with
    | zero =>
      have hlt : decide ((i : Int) < (l.length : Int)) = false := by rw [decide_eq_false_iff_not]; omega
      go_wp2_with fail
      go_ret
      exact ⟨rfl, hB.out⟩
    | succ gk =>
      have hi : i < l.length := by omega
      have hlt : decide ((i : Int) < (l.length : Int)) = true := by rw [decide_eq_true_iff]; omega
      have i1 : (0 : Int) ≤ (i : Int) := by omega
      obtain ⟨ad0, rfl, e0⟩ := strC_at (Kd.C_below hG0.out hB.out) i hi
      obtain ⟨ad1, rfl, e1⟩ := strC_at (Kd.C_below hG1.out hB.out) i hi
      generalize l[i] = x at *
      go_wp2_with fail
      go_quiet (fail)
      go_wp2_with fail
      go_roundg gk
      case measure => omega
      case rel => exact ⟨i + 1, by go_num, by omega, pw_below_drewN hB.out _⟩
set_option maxRecDepth 100000 in
set_option maxHeartbeats 8000000 in
theorem same_C (es : List SR) (ds : List ByteArray) (A0 A1 A2 A3 : Option Addr) (c0 c1 c2 c3 : Nat) (w : World) (h0 : es.length ≤ c0) (g0 : Kd.C KR w A0 es.length es) (h1 : ds.length ≤ c1) (g1 : Kd.C Kd.string w A1 ds.length ds) (h2 : es.length ≤ c2) (g2 : Kd.C KR w A2 es.length es) (h3 : ds.length ≤ c3) (g3 : Kd.C Kd.string w A3 ds.length ds) :
    Calls Tryz.prog 10 #[.agg #[.slice A0 es.length c0, .slice A1 ds.length c1], .agg #[.slice A2 es.length c2, .slice A3 ds.length c3]] w fun e w' => e = .returned (.bool true) ∧ Below w.heap.size w w' := by
  have hu37 := Tryz.underlying25
  have hu67 := Tryz.underlying42
  have hG0 := Lib.hid g0
  have hG2 := Lib.hid g2
  have hN := Lib.hid (fun W (hB : Below w.heap.size w W) => names_C ds A1 A3 c1 c3 W h1 (Kd.C_below g1 hB) h3 (Kd.C_below g3 hB))
  have hl := g0.2.1
  clear g0 g1 g2 g3
  go_enter Tryz.func10, Tryz.ntmps10
  go_wp2_with fail
  have hB0 : Hid (Below w.heap.size w ((w.alloc (.cells #[.slice A0 es.length c0, .slice A1 ds.length c1] 25)).alloc (.cells #[.slice A2 es.length c2, .slice A3 ds.length c3] 25))) := Lib.hid (by (repeat (first | exact Below.refl _ _ | refine Below.drew ?_ | refine Below.setCell ?_ (by simp <;> omega) _ | refine Below.alloc ?_ (by simp <;> omega) _)))
  have hP0 : Hid (((w.alloc (.cells #[.slice A0 es.length c0, .slice A1 ds.length c1] 25)).alloc (.cells #[.slice A2 es.length c2, .slice A3 ds.length c3] 25)).heap[w.heap.size]? = some (.cells #[.slice A0 es.length c0, .slice A1 ds.length c1] 25 (0, 0))) := Lib.hid (by
    refine (heapAt_lt ?_).trans (heapAt_eq rfl)
    simp only [World.size_alloc]; omega)
  have hP1 : Hid (((w.alloc (.cells #[.slice A0 es.length c0, .slice A1 ds.length c1] 25)).alloc (.cells #[.slice A2 es.length c2, .slice A3 ds.length c3] 25)).heap[w.heap.size + 1]? = some (.cells #[.slice A2 es.length c2, .slice A3 ds.length c3] 25 (0, 0))) := Lib.hid (by
    refine heapAt_eq ?_
    simp only [World.size_alloc])
  refine (hN.out _ hB0.out).mono ?_
  rintro x w1 ⟨rfl, hb⟩
  have z1 : w.heap.size + 1 + 1 ≤ w1.heap.size := Nat.le_trans (by simp) hb.size
  have hB1 := Lib.hid (hB0.out.trans (hb.mono hB0.out.size))
  have hQ0 := Lib.hid ((hb.block _ (lt_blk hP0.out)).trans hP0.out)
  have hQ1 := Lib.hid ((hb.block _ (lt_blk hP1.out)).trans hP1.out)
  clear hb hB0 hP0 hP1 hN
  go_wp2_with fail
  go_loopg [5] es.length (fun gk s5 wr => ∃ i : Nat, s5 = .int .i64 (i : Int) ∧ i + gk = es.length ∧ w.heap.size + 1 + 1 ≤ wr.heap.size ∧ Hid (Below w.heap.size w wr) ∧ Hid (wr.heap[w.heap.size]? = some (.cells #[.slice A0 es.length c0, .slice A1 ds.length c1] 25 (0, 0))) ∧ Hid (wr.heap[w.heap.size + 1]? = some (.cells #[.slice A2 es.length c2, .slice A3 ds.length c3] 25 (0, 0))))
  case atStart => exact ⟨0, rfl, Nat.zero_add _, z1, hB1, hQ0, hQ1⟩
  case round =>
    obtain ⟨i, rfl, hik, hz, hB, hm, hn⟩ := hrel
    have m0 := (cell_of_heap (j := 0) hm.out).trans rfl
    have n0 := (cell_of_heap (j := 0) hn.out).trans rfl
    cases gk with
    | zero =>
      have hlt : decide ((i : Int) < (es.length : Int)) = false := by rw [decide_eq_false_iff_not]; omega
      go_wp2_with fail
      go_ret
      exact ⟨rfl, hB.out⟩
    | succ gk =>
      have hi : i < es.length := by omega
      have hlt : decide ((i : Int) < (es.length : Int)) = true := by rw [decide_eq_true_iff]; omega
      have i1 : (0 : Int) ≤ (i : Int) := by omega
      have i2 : (i : Int) < (es.length : Int) := by omega
      obtain ⟨ad, a0, d0, a1, d1, a2, d2, a3, d3, rfl, k0, k1, k2, k3, k4, k5, l0, g0, l1, g1, l2, g2, l3, g3⟩ := at_T42 (Kd.C_below hG0.out hB.out) (i : Int) i1 (by omega)
      obtain ⟨bd, b0, e0, b1, e1, b2, e2, b3, e3, rfl, j0, j1, j2, j3, j4, j5, o0, p0, o1, p1, o2, p2, o3, p3⟩ := at_T42 (Kd.C_below hG2.out hB.out) (i : Int) i1 (by omega)
      rw [Int.toNat_natCast] at k0 k1 k2 k3 k4 k5 j0 j1 j2 j3 j4 j5
      generalize rd_T42 es (i : Int) = x at *
      have hS : Hid (∀ X, Below wr.heap.size wr X → (fun w' => w'.cell? ⟨w.heap.size, 0, none⟩ = some (.slice (some ad) es.length c0) ∧ w'.cell? ⟨w.heap.size + 1, 0, none⟩ = some (.slice (some bd) es.length c2) ∧ w'.cell? (ad.add (i * 6)) = some (.slice a0 x.f0.length d0) ∧ w'.cell? ⟨(ad.add (i * 6)).block, (ad.add (i * 6)).off + 1, none⟩ = some (.slice a1 x.f1.length d1) ∧ w'.cell? ⟨(ad.add (i * 6)).block, (ad.add (i * 6)).off + 2, none⟩ = some (.slice a2 x.f2.length d2) ∧ w'.cell? ⟨(ad.add (i * 6)).block, (ad.add (i * 6)).off + 3, none⟩ = some (.slice a3 x.f3.length d3) ∧ w'.cell? ⟨(ad.add (i * 6)).block, (ad.add (i * 6)).off + 4, none⟩ = some (.string x.f4) ∧ w'.cell? ⟨(ad.add (i * 6)).block, (ad.add (i * 6)).off + 5, none⟩ = some (.string x.f5) ∧ w'.cell? (bd.add (i * 6)) = some (.slice b0 x.f0.length e0) ∧ w'.cell? ⟨(bd.add (i * 6)).block, (bd.add (i * 6)).off + 1, none⟩ = some (.slice b1 x.f1.length e1) ∧ w'.cell? ⟨(bd.add (i * 6)).block, (bd.add (i * 6)).off + 2, none⟩ = some (.slice b2 x.f2.length e2) ∧ w'.cell? ⟨(bd.add (i * 6)).block, (bd.add (i * 6)).off + 3, none⟩ = some (.slice b3 x.f3.length e3) ∧ w'.cell? ⟨(bd.add (i * 6)).block, (bd.add (i * 6)).off + 4, none⟩ = some (.string x.f4) ∧ w'.cell? ⟨(bd.add (i * 6)).block, (bd.add (i * 6)).off + 5, none⟩ = some (.string x.f5)) X) := Lib.hid (fun X hX => ⟨below_cell hX m0, below_cell hX n0, below_cell hX k0, below_cell hX k1, below_cell hX k2, below_cell hX k3, below_cell hX k4, below_cell hX k5, below_cell hX j0, below_cell hX j1, below_cell hX j2, below_cell hX j3, below_cell hX j4, below_cell hX j5⟩)
      have hN0 := Lib.hid (fun W (hX : Below wr.heap.size wr W) => names_C x.f0 a0 b0 d0 e0 W l0 (Kd.C_below g0 hX) o0 (Kd.C_below p0 hX))
      have hN1 := Lib.hid (fun W (hX : Below wr.heap.size wr W) => names_C x.f1 a1 b1 d1 e1 W l1 (Kd.C_below g1 hX) o1 (Kd.C_below p1 hX))
      have hN2 := Lib.hid (fun W (hX : Below wr.heap.size wr W) => names_C x.f2 a2 b2 d2 e2 W l2 (Kd.C_below g2 hX) o2 (Kd.C_below p2 hX))
      have hN3 := Lib.hid (fun W (hX : Below wr.heap.size wr W) => names_C x.f3 a3 b3 d3 e3 W l3 (Kd.C_below g3 hX) o3 (Kd.C_below p3 hX))
      clear g0 g1 g2 g3 p0 p1 p2 p3
      go_upto_region 6 with (fail)
      go_cut [6, 7] (fun s6 s7 wx => ∃ p q, s6 = at0' p ∧ s7 = at0' q ∧ wr.heap.size ≤ p ∧ wr.heap.size ≤ q ∧ Hid (wx.heap[p]? = some (.cells #[.slice a0 x.f0.length d0, .slice a1 x.f1.length d1, .slice a2 x.f2.length d2, .slice a3 x.f3.length d3, .string x.f4, .string x.f5] 42 (0, 0))) ∧ Hid (wx.heap[q]? = some (.cells #[.slice b0 x.f0.length e0, .slice b1 x.f1.length e1, .slice b2 x.f2.length e2, .slice b3 x.f3.length e3, .string x.f4, .string x.f5] 42 (0, 0))) ∧ Hid (Below wr.heap.size wr wx))
      case first =>
        refine RegP.regionT (fun w' => w'.cell? ⟨w.heap.size, 0, none⟩ = some (.slice (some ad) es.length c0) ∧ w'.cell? ⟨w.heap.size + 1, 0, none⟩ = some (.slice (some bd) es.length c2) ∧ w'.cell? (ad.add (i * 6)) = some (.slice a0 x.f0.length d0) ∧ w'.cell? ⟨(ad.add (i * 6)).block, (ad.add (i * 6)).off + 1, none⟩ = some (.slice a1 x.f1.length d1) ∧ w'.cell? ⟨(ad.add (i * 6)).block, (ad.add (i * 6)).off + 2, none⟩ = some (.slice a2 x.f2.length d2) ∧ w'.cell? ⟨(ad.add (i * 6)).block, (ad.add (i * 6)).off + 3, none⟩ = some (.slice a3 x.f3.length d3) ∧ w'.cell? ⟨(ad.add (i * 6)).block, (ad.add (i * 6)).off + 4, none⟩ = some (.string x.f4) ∧ w'.cell? ⟨(ad.add (i * 6)).block, (ad.add (i * 6)).off + 5, none⟩ = some (.string x.f5) ∧ w'.cell? (bd.add (i * 6)) = some (.slice b0 x.f0.length e0) ∧ w'.cell? ⟨(bd.add (i * 6)).block, (bd.add (i * 6)).off + 1, none⟩ = some (.slice b1 x.f1.length e1) ∧ w'.cell? ⟨(bd.add (i * 6)).block, (bd.add (i * 6)).off + 2, none⟩ = some (.slice b2 x.f2.length e2) ∧ w'.cell? ⟨(bd.add (i * 6)).block, (bd.add (i * 6)).off + 3, none⟩ = some (.slice b3 x.f3.length e3) ∧ w'.cell? ⟨(bd.add (i * 6)).block, (bd.add (i * 6)).off + 4, none⟩ = some (.string x.f4) ∧ w'.cell? ⟨(bd.add (i * 6)).block, (bd.add (i * 6)).off + 5, none⟩ = some (.string x.f5)) (.cons 0 0 (.cons 1 1 (.cons 0 2 (.cons 0 3 (.cons 1 4 (.cons 0 5 (.cons 1 6 (.cons 0 7 (.cons 0 8 (.cons 1 9 (.fork 10 (.cons 2 11 (.cons 2 12 (.cons 2 13 .nil))) 11 (.cons 2 10 (.cons 2 12 (.cons 2 13 .nil)))))))))))))) (by kernel_rfl) (by kernel_rfl) (by kernel_rfl) (by exact hS.out _ (Below.refl _ _).drew) ?_
        refine RegP.pureT (by (simp only [gA,gB,gC]); rfl) (by exact fun _ _ _ h => h) (by rfl) (by intro w'; go_simp; try with_reducible rfl) ?_
        try simp only [Act.put, pA,pB,pC]
        refine RegP.heldT (by (simp only [gA,gB,gC]); rfl) (by exact fun _ _ _ h => h) (by rfl) (by intro w' hS_; (try dsimp only at hS_); go_split_ands; go_simp; try with_reducible rfl) ?_
        try simp only [Act.put, pA,pB,pC]
        refine RegP.pureT (by (simp only [gA,gB,gC]); rfl) (by exact fun _ _ _ h => h) (by rfl) (by intro w'; go_simp; try with_reducible rfl) ?_
        try simp only [Act.put, pA,pB,pC]
        refine RegP.pureT (by (simp only [gA,gB,gC]); rfl) (by exact fun _ _ _ h => h) (by rfl) (by intro w'; go_simp; try with_reducible rfl) ?_
        try simp only [Act.put, pA,pB,pC]
        refine RegP.heldT (by (simp only [gA,gB,gC]); rfl) (by exact fun _ _ _ h => h) (by rfl) (by intro w' hS_; (try dsimp only at hS_); go_split_ands; go_simp; try with_reducible rfl) ?_
        try simp only [Act.put, pA,pB,pC]
        refine RegP.pureT (by (simp only [gA,gB,gC]); rfl) (by exact fun _ _ _ h => h) (by rfl) (by intro w'; go_simp; try with_reducible rfl) ?_
        try simp only [Act.put, pA,pB,pC]
        refine RegP.heldT (by (simp only [gA,gB,gC]); rfl) (by exact fun _ _ _ h => h) (by rfl) (by intro w' hS_; (try dsimp only at hS_); go_split_ands; go_simp; try with_reducible rfl) ?_
        try simp only [Act.put, pA,pB,pC]
        refine RegP.pureT (by (simp only [gA,gB,gC]); rfl) (by exact fun _ _ _ h => h) (by rfl) (by intro w'; go_simp; try with_reducible rfl) ?_
        try simp only [Act.put, pA,pB,pC]
        refine RegP.pureT (by (simp only [gA,gB,gC]); rfl) (by exact fun _ _ _ h => h) (by rfl) (by intro w'; go_simp; try with_reducible rfl) ?_
        try simp only [Act.put, pA,pB,pC]
        refine RegP.heldT (by (simp only [gA,gB,gC]); rfl) (by exact fun _ _ _ h => h) (by rfl) (by intro w' hS_; (try dsimp only at hS_); go_split_ands; go_simp; try with_reducible rfl) ?_
        try simp only [Act.put, pA,pB,pC]
        refine RegP.forkT (by (simp only [gA,gB,gC]); rfl) (by (simp only [gA,gB,gC]); rfl) (fun K hK => ?_) (fun K hK => ?_)
        · go_simp
          refine hK.out _ _ ?_ (fun hHeld => ?_)
          · (try dsimp only); exact hS.out _ (by (repeat (first | exact Below.refl _ _ | refine Below.drew ?_ | refine Below.setCell ?_ (by simp <;> omega) _ | refine Below.alloc ?_ (by simp <;> omega) _)))
          clear hK K
          try simp only [Act.put, pA,pB,pC]
          refine RegP.evT (by (simp only [gA,gB,gC]); rfl) (fun K hK => ?_)
          go_simp
          refine hK.out _ _ ?_ (fun hHeld => ?_)
          · (try dsimp only); exact hS.out _ (by (repeat (first | exact Below.refl _ _ | refine Below.drew ?_ | refine Below.setCell ?_ (by simp <;> omega) _ | refine Below.alloc ?_ (by simp <;> omega) _)))
          clear hK K
          try simp only [Act.put, pA,pB,pC]
          refine RegP.evT (by (simp only [gA,gB,gC]); rfl) (fun K hK => ?_)
          go_simp
          refine hK.out _ _ ?_ (fun hHeld => ?_)
          · (try dsimp only); exact hS.out _ (by (repeat (first | exact Below.refl _ _ | refine Below.drew ?_ | refine Below.setCell ?_ (by simp <;> omega) _ | refine Below.alloc ?_ (by simp <;> omega) _)))
          clear hK K
          try simp only [Act.put, pA,pB,pC]
          refine RegP.evT (by (simp only [gA,gB,gC]); rfl) (fun K hK => ?_)
          go_simp
          refine hK.out _ _ ?_ (fun hHeld => ?_)
          · (try dsimp only); exact hS.out _ (by (repeat (first | exact Below.refl _ _ | refine Below.drew ?_ | refine Below.setCell ?_ (by simp <;> omega) _ | refine Below.alloc ?_ (by simp <;> omega) _)))
          clear hK K
          try simp only [Act.put, pA,pB,pC]
          refine RegP.doneT ?_
          clear hHeld
          try dsimp only
          go_wp2_with fail
          go_meet
          exact ⟨wr.heap.size, wr.heap.size + 1, rfl, rfl, Nat.le_refl _, Nat.le_succ _, Lib.hid (two_fst _ _ _), Lib.hid (two_snd _ _ _), Lib.hid (by (repeat (first | exact Below.refl _ _ | refine Below.drew ?_ | refine Below.setCell ?_ (by simp <;> omega) _ | refine Below.alloc ?_ (by simp <;> omega) _)))⟩
        · go_simp
          refine hK.out _ _ ?_ (fun hHeld => ?_)
          · (try dsimp only); exact hS.out _ (by (repeat (first | exact Below.refl _ _ | refine Below.drew ?_ | refine Below.setCell ?_ (by simp <;> omega) _ | refine Below.alloc ?_ (by simp <;> omega) _)))
          clear hK K
          try simp only [Act.put, pA,pB,pC]
          refine RegP.evT (by (simp only [gA,gB,gC]); rfl) (fun K hK => ?_)
          go_simp
          refine hK.out _ _ ?_ (fun hHeld => ?_)
          · (try dsimp only); exact hS.out _ (by (repeat (first | exact Below.refl _ _ | refine Below.drew ?_ | refine Below.setCell ?_ (by simp <;> omega) _ | refine Below.alloc ?_ (by simp <;> omega) _)))
          clear hK K
          try simp only [Act.put, pA,pB,pC]
          refine RegP.evT (by (simp only [gA,gB,gC]); rfl) (fun K hK => ?_)
          go_simp
          refine hK.out _ _ ?_ (fun hHeld => ?_)
          · (try dsimp only); exact hS.out _ (by (repeat (first | exact Below.refl _ _ | refine Below.drew ?_ | refine Below.setCell ?_ (by simp <;> omega) _ | refine Below.alloc ?_ (by simp <;> omega) _)))
          clear hK K
          try simp only [Act.put, pA,pB,pC]
          refine RegP.evT (by (simp only [gA,gB,gC]); rfl) (fun K hK => ?_)
          go_simp
          refine hK.out _ _ ?_ (fun hHeld => ?_)
          · (try dsimp only); exact hS.out _ (by (repeat (first | exact Below.refl _ _ | refine Below.drew ?_ | refine Below.setCell ?_ (by simp <;> omega) _ | refine Below.alloc ?_ (by simp <;> omega) _)))
          clear hK K
          try simp only [Act.put, pA,pB,pC]
          refine RegP.doneT ?_
          clear hHeld
          try dsimp only
          go_wp2_with fail
          go_meet
          exact ⟨wr.heap.size + 1, wr.heap.size, rfl, rfl, Nat.le_succ _, Nat.le_refl _, Lib.hid (two_snd _ _ _), Lib.hid (two_fst _ _ _), Lib.hid (by (repeat (first | exact Below.refl _ _ | refine Below.drew ?_ | refine Below.setCell ?_ (by simp <;> omega) _ | refine Below.alloc ?_ (by simp <;> omega) _)))⟩
      case rest =>
        obtain ⟨p, q, rfl, rfl, hzp, hzq, hp3, hq3, hB3⟩ := hcut
        have p0_ := (cell_of_heap (j := 0) hp3.out).trans rfl
        have p1_ := (cell_of_heap (j := 1) hp3.out).trans rfl
        have p2_ := (cell_of_heap (j := 2) hp3.out).trans rfl
        have p3_ := (cell_of_heap (j := 3) hp3.out).trans rfl
        have p4_ := (cell_of_heap (j := 4) hp3.out).trans rfl
        have p5_ := (cell_of_heap (j := 5) hp3.out).trans rfl
        have q0_ := (cell_of_heap (j := 0) hq3.out).trans rfl
        have q1_ := (cell_of_heap (j := 1) hq3.out).trans rfl
        have q2_ := (cell_of_heap (j := 2) hq3.out).trans rfl
        have q3_ := (cell_of_heap (j := 3) hq3.out).trans rfl
        have q4_ := (cell_of_heap (j := 4) hq3.out).trans rfl
        have q5_ := (cell_of_heap (j := 5) hq3.out).trans rfl
        go_wp2_with fail
        refine (hN0.out _ hB3.out).mono ?_
        rintro e w4 ⟨rfl, hb⟩
        have hB4 := Lib.hid (hB3.out.trans (hb.mono hB3.out.size))
        have hp4 := Lib.hid ((hb.block _ (lt_blk hp3.out)).trans hp3.out)
        have hq4 := Lib.hid ((hb.block _ (lt_blk hq3.out)).trans hq3.out)
        clear hb
        clear p0_ q0_ p1_ q1_ p2_ q2_ p3_ q3_ p4_ q4_ p5_ q5_
        have p0_ := (cell_of_heap (j := 0) hp4.out).trans rfl
        have p1_ := (cell_of_heap (j := 1) hp4.out).trans rfl
        have p2_ := (cell_of_heap (j := 2) hp4.out).trans rfl
        have p3_ := (cell_of_heap (j := 3) hp4.out).trans rfl
        have p4_ := (cell_of_heap (j := 4) hp4.out).trans rfl
        have p5_ := (cell_of_heap (j := 5) hp4.out).trans rfl
        have q0_ := (cell_of_heap (j := 0) hq4.out).trans rfl
        have q1_ := (cell_of_heap (j := 1) hq4.out).trans rfl
        have q2_ := (cell_of_heap (j := 2) hq4.out).trans rfl
        have q3_ := (cell_of_heap (j := 3) hq4.out).trans rfl
        have q4_ := (cell_of_heap (j := 4) hq4.out).trans rfl
        have q5_ := (cell_of_heap (j := 5) hq4.out).trans rfl
        go_wp2_with fail
        refine (hN1.out _ hB4.out).mono ?_
        rintro e w5 ⟨rfl, hb⟩
        have hB5 := Lib.hid (hB4.out.trans (hb.mono hB4.out.size))
        have hp5 := Lib.hid ((hb.block _ (lt_blk hp4.out)).trans hp4.out)
        have hq5 := Lib.hid ((hb.block _ (lt_blk hq4.out)).trans hq4.out)
        clear hb
        clear p0_ q0_ p1_ q1_ p2_ q2_ p3_ q3_ p4_ q4_ p5_ q5_
        have p0_ := (cell_of_heap (j := 0) hp5.out).trans rfl
        have p1_ := (cell_of_heap (j := 1) hp5.out).trans rfl
        have p2_ := (cell_of_heap (j := 2) hp5.out).trans rfl
        have p3_ := (cell_of_heap (j := 3) hp5.out).trans rfl
        have p4_ := (cell_of_heap (j := 4) hp5.out).trans rfl
        have p5_ := (cell_of_heap (j := 5) hp5.out).trans rfl
        have q0_ := (cell_of_heap (j := 0) hq5.out).trans rfl
        have q1_ := (cell_of_heap (j := 1) hq5.out).trans rfl
        have q2_ := (cell_of_heap (j := 2) hq5.out).trans rfl
        have q3_ := (cell_of_heap (j := 3) hq5.out).trans rfl
        have q4_ := (cell_of_heap (j := 4) hq5.out).trans rfl
        have q5_ := (cell_of_heap (j := 5) hq5.out).trans rfl
        go_wp2_with fail
        refine (hN2.out _ hB5.out).mono ?_
        rintro e w6 ⟨rfl, hb⟩
        have hB6 := Lib.hid (hB5.out.trans (hb.mono hB5.out.size))
        have hp6 := Lib.hid ((hb.block _ (lt_blk hp5.out)).trans hp5.out)
        have hq6 := Lib.hid ((hb.block _ (lt_blk hq5.out)).trans hq5.out)
        clear hb
        clear p0_ q0_ p1_ q1_ p2_ q2_ p3_ q3_ p4_ q4_ p5_ q5_
        have p0_ := (cell_of_heap (j := 0) hp6.out).trans rfl
        have p1_ := (cell_of_heap (j := 1) hp6.out).trans rfl
        have p2_ := (cell_of_heap (j := 2) hp6.out).trans rfl
        have p3_ := (cell_of_heap (j := 3) hp6.out).trans rfl
        have p4_ := (cell_of_heap (j := 4) hp6.out).trans rfl
        have p5_ := (cell_of_heap (j := 5) hp6.out).trans rfl
        have q0_ := (cell_of_heap (j := 0) hq6.out).trans rfl
        have q1_ := (cell_of_heap (j := 1) hq6.out).trans rfl
        have q2_ := (cell_of_heap (j := 2) hq6.out).trans rfl
        have q3_ := (cell_of_heap (j := 3) hq6.out).trans rfl
        have q4_ := (cell_of_heap (j := 4) hq6.out).trans rfl
        have q5_ := (cell_of_heap (j := 5) hq6.out).trans rfl
        go_wp2_with fail
        refine (hN3.out _ hB6.out).mono ?_
        rintro e w7 ⟨rfl, hb⟩
        have hB7 := Lib.hid (hB6.out.trans (hb.mono hB6.out.size))
        have hp7 := Lib.hid ((hb.block _ (lt_blk hp6.out)).trans hp6.out)
        have hq7 := Lib.hid ((hb.block _ (lt_blk hq6.out)).trans hq6.out)
        clear hb
        clear p0_ q0_ p1_ q1_ p2_ q2_ p3_ q3_ p4_ q4_ p5_ q5_
        have p0_ := (cell_of_heap (j := 0) hp7.out).trans rfl
        have p1_ := (cell_of_heap (j := 1) hp7.out).trans rfl
        have p2_ := (cell_of_heap (j := 2) hp7.out).trans rfl
        have p3_ := (cell_of_heap (j := 3) hp7.out).trans rfl
        have p4_ := (cell_of_heap (j := 4) hp7.out).trans rfl
        have p5_ := (cell_of_heap (j := 5) hp7.out).trans rfl
        have q0_ := (cell_of_heap (j := 0) hq7.out).trans rfl
        have q1_ := (cell_of_heap (j := 1) hq7.out).trans rfl
        have q2_ := (cell_of_heap (j := 2) hq7.out).trans rfl
        have q3_ := (cell_of_heap (j := 3) hq7.out).trans rfl
        have q4_ := (cell_of_heap (j := 4) hq7.out).trans rfl
        have q5_ := (cell_of_heap (j := 5) hq7.out).trans rfl
        go_wp2_with fail
        go_roundg gk
        case measure => omega
        case rel => exact ⟨i + 1, by go_num, by omega, Nat.le_trans hz hB7.out.size, Lib.hid (hB.out.trans (hB7.out.mono hB.out.size)), Lib.hid ((hB7.out.block _ (by omega)).trans hm.out), Lib.hid ((hB7.out.block _ (by omega)).trans hn.out)⟩
end Go.Proofs.YtbjekebkgidhaaaGreatDoor.Mf
end
section
set_option linter.unusedVariables false
namespace Go.Proofs.YtbjekebkgidhaaaGreatDoor.St
open Go.RowKit Go.ChangeShapes Go.WideShapes Go.Proofs.YtbjekebkgidhaaaGreatDoorW.PrintWords Go.Proofs.YtbjekebkgidhaaaGreatDoor.P
def Opens {α : Type} (t : TypeId) (d : Kd α) : Prop :=
  ∀ {H : Type} {enc : TypeId × Value → H} {W : World} {fuel : Nat} {cs : List Value} {x : DataW H × List MemPlace}, DataW.trod enc Tryz.prog W 0 (fun _ => true) true fuel t cs = some x → ∃ a, d.K W a cs
theorem opens_string : Opens 9 Kd.string := by
  intro H enc W fuel cs x h
  obtain ⟨s, e, _, _⟩ := DataW.trod_string Tryz.underlying9 h
  exact ⟨s, e⟩
theorem opens_slice {α : Type} {t e : TypeId} {d : Kd α} (ht : Tryz.prog.underlying t = some (.slice e)) (hsz : Tryz.prog.cellsOf e = d.sz) (hd : Opens e d) : Opens t (Kd.slice e d) := by
  intro H enc W fuel cs y h
  rcases DataW.trod_slice ht h with ⟨hcs, _⟩ | ⟨x, len, cap, elems, rest, n, _, hcs, _, hb, hl, hm, hlen, hel, _, _⟩
  · exact ⟨[], none, 0, hcs, Nat.le_refl _, rfl, Nat.zero_le _, fun h => absurd h (Nat.lt_irrefl 0)⟩
  · have each : ∀ i, i < len → ∃ a c, c.length = d.sz ∧ d.K W a c ∧ ∀ j u, c[j]? = some u → W.cell? (x.add (i * d.sz + j)) = some u := by
      intro i hi
      have hE := hel i hi
      have hy : elems[i]? = some (elems[i]'(by omega)) := List.getElem?_eq_getElem (by omega)
      rw [hy, Option.bind_eq_some_iff, hsz] at hE
      obtain ⟨c, hc, hT⟩ := hE
      obtain ⟨_, hcl, hcj⟩ := World.cells?_some hc
      obtain ⟨a, ha⟩ := hd hT
      refine ⟨a, c, hcl, ha, fun j u hu => ?_⟩
      have hj : j < d.sz := by rw [← hcl]; exact (List.getElem?_eq_some_iff.1 hu).1
      have := hcj j hj
      rw [Addr.add_add] at this
      rw [this]; exact hu
    refine ⟨List.ofFn fun i : Fin len => Classical.choose (each i.val i.isLt), some x, cap, by rw [List.length_ofFn]; exact hcs, by rw [List.length_ofFn]; exact hl, rfl, by rw [List.length_ofFn]; unfold maxLen at hm; omega, fun _ => ⟨x, rfl, fun j p hj => ?_⟩⟩
    rw [List.getElem?_ofFn] at hj
    split at hj
    · rename_i hjl
      obtain rfl := Option.some.inj hj
      obtain ⟨c, h1, h2, h3⟩ := Classical.choose_spec (each j hjl)
      exact ⟨c, h1, h2, h3⟩
    · cases hj
theorem cells_string : Tryz.prog.cellsOf 9 = 1 := by kernel_rfl
theorem cells_strings : Tryz.prog.cellsOf 23 = 1 := by kernel_rfl
theorem opens_strings : Opens 23 (Kd.slice 9 Kd.string) := opens_slice Tryz.underlying23 cells_string opens_string
theorem cells_edge : Tryz.prog.cellsOf 42 = 6 := by kernel_rfl
theorem six {cs : List Value} (h : cs.length = 6) : ∃ a b c d e f, cs = [a, b, c, d, e, f] := by
  rcases cs with _ | ⟨a, _ | ⟨b, _ | ⟨c, _ | ⟨d, _ | ⟨e, _ | ⟨f, _ | ⟨g, t⟩⟩⟩⟩⟩⟩⟩ <;> simp at h
  exact ⟨a, b, c, d, e, f, rfl⟩
theorem two {cs : List Value} (h : cs.length = 2) : ∃ a b, cs = [a, b] := by
  rcases cs with _ | ⟨a, _ | ⟨b, _ | ⟨c, t⟩⟩⟩ <;> simp at h
  exact ⟨a, b, rfl⟩
theorem opens_edge : Opens 42 k42 := by
  intro H enc W fuel cs x h
  obtain ⟨xs, m, _, _, hcl, hxs, hF⟩ := DataW.trod_struct Tryz.underlying42 h
  rw [cells_edge] at hcl
  obtain ⟨p0, p1, p2, p3, p4, p5, rfl⟩ := six hcl
  have f0 := hF 0 _ rfl
  have f1 := hF 1 _ rfl
  have f2 := hF 2 _ rfl
  have f3 := hF 3 _ rfl
  have f4 := hF 4 _ rfl
  have f5 := hF 5 _ rfl
  change DataW.trod enc _ W 0 _ true m 23 (([p0, p1, p2, p3, p4, p5].drop 0).take (Tryz.prog.cellsOf 23)) = xs[0]? at f0
  change DataW.trod enc _ W 0 _ true m 23 (([p0, p1, p2, p3, p4, p5].drop 1).take (Tryz.prog.cellsOf 23)) = xs[1]? at f1
  change DataW.trod enc _ W 0 _ true m 23 (([p0, p1, p2, p3, p4, p5].drop 2).take (Tryz.prog.cellsOf 23)) = xs[2]? at f2
  change DataW.trod enc _ W 0 _ true m 23 (([p0, p1, p2, p3, p4, p5].drop 3).take (Tryz.prog.cellsOf 23)) = xs[3]? at f3
  change DataW.trod enc _ W 0 _ true m 9 (([p0, p1, p2, p3, p4, p5].drop 4).take (Tryz.prog.cellsOf 9)) = xs[4]? at f4
  change DataW.trod enc _ W 0 _ true m 9 (([p0, p1, p2, p3, p4, p5].drop 5).take (Tryz.prog.cellsOf 9)) = xs[5]? at f5
  rw [cells_strings] at f0 f1 f2 f3
  rw [cells_string] at f4 f5
  have hxl : xs.length = 6 := hxs
  rw [List.getElem?_eq_getElem (by omega)] at f0 f1 f2 f3 f4 f5
  obtain ⟨a0, k0⟩ := opens_strings f0
  obtain ⟨a1, k1⟩ := opens_strings f1
  obtain ⟨a2, k2⟩ := opens_strings f2
  obtain ⟨a3, k3⟩ := opens_strings f3
  obtain ⟨a4, k4⟩ := opens_string f4
  obtain ⟨a5, k5⟩ := opens_string f5
  exact ⟨⟨a0, a1, a2, a3, a4, a5⟩, [p0], [p1, p2, p3, p4, p5], rfl, k0, [p1], [p2, p3, p4, p5], rfl, k1, [p2], [p3, p4, p5], rfl, k2, [p3], [p4, p5], rfl, k3, [p4], [p5], rfl, k4, k5⟩
theorem opens_edges : Opens 22 (Kd.slice 42 k42) := opens_slice Tryz.underlying22 cells_edge opens_edge
theorem cells_edges : Tryz.prog.cellsOf 22 = 1 := by kernel_rfl
theorem cells_man : Tryz.prog.cellsOf 25 = 2 := by kernel_rfl
def ManAt (W : World) (cs : Array Value) (e : List S42) (d : List ByteArray) : Prop :=
  ∃ A0 c0 A1 c1, cs = #[.slice A0 e.length c0, .slice A1 d.length c1] ∧ e.length ≤ c0 ∧ Kd.C k42 W A0 e.length e ∧ d.length ≤ c1 ∧ Kd.C Kd.string W A1 d.length d
theorem man_open {H : Type} {enc : TypeId × Value → H} {W : World} {cs : Array Value} {d : DataW H} {ps : List MemPlace} (h : DataW.Trod enc Tryz.prog W 0 (fun _ => true) true 25 (.agg cs) d ps) :
    ∃ x : List S42 × List ByteArray, ManAt W cs x.1 x.2 := by
  obtain ⟨fuel, hf⟩ := h
  obtain ⟨xs, m, _, _, hcl, hxs, hF⟩ := DataW.trod_struct Tryz.underlying25 hf
  rw [cells_man] at hcl
  obtain ⟨p0, p1, hp⟩ := two hcl
  rw [hp] at hF
  have f0 := hF 0 _ rfl
  have f1 := hF 1 _ rfl
  change DataW.trod enc _ W 0 _ true m 22 (([p0, p1].drop 0).take (Tryz.prog.cellsOf 22)) = xs[0]? at f0
  change DataW.trod enc _ W 0 _ true m 23 (([p0, p1].drop 1).take (Tryz.prog.cellsOf 23)) = xs[1]? at f1
  rw [cells_edges] at f0
  rw [cells_strings] at f1
  have hxl : xs.length = 2 := hxs
  rw [List.getElem?_eq_getElem (by omega)] at f0 f1
  obtain ⟨a0, A0, c0, e0, l0, g0⟩ := opens_edges f0
  obtain ⟨a1, A1, c1, e1, l1, g1⟩ := opens_strings f1
  refine ⟨(a0, a1), A0, c0, A1, c1, ?_, l0, g0, l1, g1⟩
  have q0 : p0 = .slice A0 a0.length c0 := by injection e0
  have q1 : p1 = .slice A1 a1.length c1 := by injection e1
  apply Array.toList_inj.1
  show (Value.agg cs).cells.toList = _
  rw [hp, q0, q1]
end Go.Proofs.YtbjekebkgidhaaaGreatDoor.St
end
section
set_option linter.unusedSimpArgs false
set_option linter.unusedVariables false
namespace Go.Proofs.YtbjekebkgidhaaaGreatDoor.Mf
open Go.RowKit Go.Lib Go.Shelf Go.Maps Go.Proofs.YtbjekebkgidhaaaGreatDoorW.PrintWords Go.Proofs.YtbjekebkgidhaaaGreatDoor.U Go.Proofs.YtbjekebkgidhaaaGreatDoor.Sc Go.Proofs.YtbjekebkgidhaaaGreatDoor.P Go.Proofs.YtbjekebkgidhaaaGreatDoor.MapV
theorem toS_list (m : List SE) : (m.map toO).map toS = m := by
  rw [List.map_map]
  conv => rhs; rw [← List.map_id m]
  exact List.map_congr_left fun a _ => toS_toO a
theorem parse_back {m : List SE} {d : List ByteArray} {s : ByteArray} (h : printM m d = (s, 0)) (w : World) (hm : MaxCell w) :
    Calls Tryz.prog 9 #[.string s] w fun e w' => ∃ A0 c0 A1 c1, e = .returned (.tuple #[.agg #[.slice A0 m.length c0, .slice A1 d.length c1], .int .i64 0, .int .i64 0]) ∧ m.length ≤ c0 ∧ Kd.C KE w' A0 m.length m ∧ d.length ≤ c1 ∧ Kd.C Kd.string w' A1 d.length d ∧ Below w.heap.size w w' := by
  obtain ⟨t, ht, hp⟩ := print_back h
  refine (parse_C t _ _ _ _ hp s ht w hm).mono ?_
  rintro e w' ⟨A0, c0, A1, c1, rfl, l0, g0, l1, g1, hb⟩
  rw [toS_list] at l0 g0 ⊢
  rw [map_B_toL] at l1 g1 ⊢
  exact ⟨A0, c0, A1, c1, rfl, l0, g0, l1, g1, hb⟩
end Go.Proofs.YtbjekebkgidhaaaGreatDoor.Mf
end
section
set_option linter.unusedSimpArgs false
set_option linter.unusedVariables false
namespace Go.Proofs.YtbjekebkgidhaaaGreatDoor.Of4
open Go.RowKit Go.Lib Go.Shelf Go.Maps Go.Proofs.YtbjekebkgidhaaaGreatDoorW.PrintWords Go.Proofs.YtbjekebkgidhaaaGreatDoor.U Go.Proofs.YtbjekebkgidhaaaGreatDoor.Mf Go.Proofs.YtbjekebkgidhaaaGreatDoor.P Go.Proofs.YtbjekebkgidhaaaGreatDoor.PrR Go.Proofs.YtbjekebkgidhaaaGreatDoor.Sc
theorem conv_cvE (e : List SR) : (e.map conv).map cvE = e := by
  rw [List.map_map]
  conv => rhs; rw [← List.map_id e]
  exact List.map_congr_left fun a _ => rfl
theorem printM_code (m : List SE) (d : List ByteArray) : (printM m d).2 = 0 ∨ (printM m d).2 = 1 ∨ (printM m d).2 = 3 := by
  unfold printM
  split
  · exact .inr (.inl rfl)
  · split
    · exact .inr (.inr rfl)
    · exact .inl rfl
theorem few_SmallE {e : List SR} {d : List ByteArray} (h : Few e d) : ∀ x ∈ e, SmallE x := by
  intro x hx
  have hx' := List.all_eq_true.1 h.s x hx
  simp only [smE, Bool.and_eq_true, decide_eq_true_iff] at hx'
  obtain ⟨b0, b1, b2, b3, b4, b5⟩ := hx'
  exact ⟨by omega, by omega, by omega, by omega⟩
theorem of_E {e : List SR} {d : List ByteArray} {A0 A1 : Option Addr} {c0 c1 : Nat} {w : World} (h0 : e.length ≤ c0) (g0 : Kd.C KR w A0 e.length e) (h1 : d.length ≤ c1) (g1 : Kd.C Kd.string w A1 d.length d) (hf : Few e d) (W : World) (hB : Below w.heap.size w W) :
    Calls Tryz.prog 7 #[.agg #[.slice A0 e.length c0, .slice A1 d.length c1]] W fun x w' => ∃ A2 c2 A3 c3, x = .returned (.agg #[.slice A2 e.length c2, .slice A3 d.length c3]) ∧ (e.length ≤ c2 ∧ Kd.C KE w' A2 e.length (e.map conv)) ∧ (d.length ≤ c3 ∧ Kd.C Kd.string w' A3 d.length d) ∧ Below W.heap.size W w' := by
  refine (of_any e d A0 A1 c0 c1 W h0 (Kd.C_below g0 hB) h1 (Kd.C_below g1 hB) (by have := hf.n; omega) (by have := hf.m; omega) (few_SmallE hf)).mono ?_
  rintro x w' ⟨A2, c2, A3, c3, rfl, q0, q1, hb⟩
  rw [List.length_map] at q0 ⊢
  exact ⟨A2, c2, A3, c3, rfl, q0, q1, hb⟩
theorem print_E {e : List SR} {d : List ByteArray} (hf : Few e d) {s0 : ByteArray} {s1 : Int} (hp : printM (e.map conv) d = (s0, s1)) (A0 A1 : Option Addr) (c0 c1 : Nat) (W : World) (h0 : e.length ≤ c0) (g0 : Kd.C KE W A0 e.length (e.map conv)) (h1 : d.length ≤ c1) (g1 : Kd.C Kd.string W A1 d.length d) :
    Calls Tryz.prog 6 #[.agg #[.slice A0 e.length c0, .slice A1 d.length c1]] W fun x w' => x = .returned (.tuple #[.string s0, .int .i64 s1]) ∧ Below W.heap.size W w' := by
  have hl : (e.map conv).length = e.length := List.length_map _
  have := print_Print.calls A0 c0 (e.map conv) A1 c1 d s0 s1 W (by rw [hl]; exact g0) (by rw [hl]; exact h0) g1 h1 (by unfold print_Print.f; rw [if_pos (okM_of hf), hp])
  rw [hl] at this
  exact this
theorem parse_E {e : List SR} {d : List ByteArray} {s : ByteArray} (h : printM (e.map conv) d = (s, 0)) (w : World) (hm : MaxCell w) :
    Calls Tryz.prog 9 #[.string s] w fun x w' => ∃ A0 c0 A1 c1, x = .returned (.tuple #[.agg #[.slice A0 e.length c0, .slice A1 d.length c1], .int .i64 0, .int .i64 0]) ∧ e.length ≤ c0 ∧ Kd.C KE w' A0 e.length (e.map conv) ∧ d.length ≤ c1 ∧ Kd.C Kd.string w' A1 d.length d ∧ Below w.heap.size w w' := by
  refine (parse_back h w hm).mono ?_
  rintro x w' ⟨A0, c0, A1, c1, rfl, q⟩
  rw [List.length_map] at q ⊢
  exact ⟨A0, c0, A1, c1, rfl, q⟩
theorem told_E (e : List SR) (d : List ByteArray) (A0 A1 : Option Addr) (c0 c1 : Nat) (w : World) (h0 : e.length ≤ c0) (g0 : Kd.C KE w A0 e.length (e.map conv)) (hn : e.length ≤ 1000000) :
    Calls Tryz.prog 11 #[.agg #[.slice A0 e.length c0, .slice A1 d.length c1]] w fun x w' => ∃ B0 d0, x = .returned (.agg #[.slice B0 e.length d0, .slice A1 d.length c1]) ∧ e.length ≤ d0 ∧ Kd.C KR w' B0 e.length e ∧ Below w.heap.size w w' := by
  have hl : (e.map conv).length = e.length := List.length_map _
  have := told_C (e.map conv) d A0 A1 c0 c1 w (by rw [hl]; exact h0) (by rw [hl]; exact g0) (by rw [hl]; exact hn)
  rw [conv_cvE, hl] at this
  exact this
set_option maxRecDepth 100000 in
set_option maxHeartbeats 16000000 in
theorem back (e : List SR) (d : List ByteArray) (A0 A1 : Option Addr) (c0 c1 : Nat) (w : World) (h0 : e.length ≤ c0) (g0 : Kd.C KR w A0 e.length e) (h1 : d.length ≤ c1) (g1 : Kd.C Kd.string w A1 d.length d) (hm : MaxCell w) :
    Calls Tryz.prog 3 #[.agg #[.slice A0 e.length c0, .slice A1 d.length c1]] w fun x w' => x = .returned (.bool true) ∧ Below w.heap.size w w' := by
  have hu25 := Tryz.underlying25
  have hu32 := Tryz.underlying32
  obtain ⟨b, hb, hF⟩ := ref_few e d
  have hFew : Hid (∀ W, Below w.heap.size w W → Calls Tryz.prog 5 #[.agg #[.slice A0 e.length c0, .slice A1 d.length c1]] W fun x w' => x = .returned (.bool b) ∧ Below W.heap.size W w') := by
    obtain ⟨k, hk⟩ := Ev.rounds hb
    exact fun W hB => bellowslaw12_few.calls k A0 c0 e A1 c1 d b W (Kd.C_below g0 hB) h0 (Kd.C_below g1 hB) h1 hk
  have hBox := Lib.hid ((Below.refl w.heap.size w).alloc (Nat.le_refl _) (.cells #[.slice A0 e.length c0, .slice A1 d.length c1] 25))
  have hCell : Hid ((w.alloc (.cells #[.slice A0 e.length c0, .slice A1 d.length c1] 25)).heap[w.heap.size]? = some (.cells #[.slice A0 e.length c0, .slice A1 d.length c1] 25 (0, 0))) := heap_alloc_new w _
  have hSz0 : w.heap.size < (w.alloc (.cells #[.slice A0 e.length c0, .slice A1 d.length c1] 25)).heap.size := by simp
  have hAw := Lib.hid (fun W => bellowslaw12_awake.calls true W awake_true)
  cases b with
  | false =>
    clear hF hb g0 g1
    go_enter Tryz.func3, Tryz.ntmps3
    go_wp2_with fail
    generalize w.alloc (.cells #[.slice A0 e.length c0, .slice A1 d.length c1] 25) = wa at *
    refine (hFew.out _ hBox.out).mono ?_
    rintro x w1 ⟨rfl, hb⟩
    go_wp2_with fail
    go_ret
    exact ⟨rfl, hBox.out.trans (hb.mono hBox.out.size)⟩
  | true =>
    have hfew := hF rfl
    have hOf := Lib.hid (of_E h0 g0 h1 g1 hfew)
    obtain ⟨⟨s0, s1⟩, hp⟩ : ∃ q, printM (e.map conv) d = q := ⟨_, rfl⟩
    have hPr := Lib.hid (print_E hfew hp)
    have hcode := printM_code (e.map conv) d
    rw [hp] at hcode
    dsimp only at hcode
    have hn : e.length ≤ 1000000 := by have := hfew.n; omega
    have hG0 := Lib.hid (fun W (hW : Below w.heap.size w W) => Kd.C_below g0 hW)
    have hG1 := Lib.hid (fun W (hW : Below w.heap.size w W) => Kd.C_below g1 hW)
    have hMx := Lib.hid (fun W (hW : Below w.heap.size w W) => hm.below hW)
    clear hF hb hfew g0 g1 hm
    rcases hcode with rfl | rfl | rfl
    · go_enter Tryz.func3, Tryz.ntmps3
      go_wp2_with fail
      generalize w.alloc (.cells #[.slice A0 e.length c0, .slice A1 d.length c1] 25) = wa at *
      refine (hFew.out _ hBox.out).mono ?_
      rintro x w1 ⟨rfl, hb⟩
      have hB1 := Lib.hid (hBox.out.trans (hb.mono hBox.out.size))
      have hC1 := Lib.hid ((hb.block _ hSz0).trans hCell.out)
      have hS1 := Nat.lt_of_lt_of_le hSz0 hb.size
      have k0 := (cell_of_heap (j := 0) hC1.out).trans rfl
      have k1 := (cell_of_heap (j := 1) hC1.out).trans rfl
      clear hb hBox hCell hSz0
      go_wp2_with fail
      refine (hOf.out _ hB1.out).mono ?_
      rintro x w2 ⟨A2, c2, A3, c3, rfl, ⟨l2, g2⟩, ⟨l3, g3⟩, hb⟩
      have hB2 := Lib.hid (hB1.out.trans (hb.mono hB1.out.size))
      have hC2 := Lib.hid ((hb.block _ hS1).trans hC1.out)
      have hS2 := Nat.lt_of_lt_of_le hS1 hb.size
      have hG2 := Lib.hid g2
      have hG3 := Lib.hid g3
      clear k0 k1
      have k0 := (cell_of_heap (j := 0) hC2.out).trans rfl
      have k1 := (cell_of_heap (j := 1) hC2.out).trans rfl
      clear hb hB1 hC1 hS1 g2 g3
      go_wp2_with fail
      refine (hPr.out A2 A3 c2 c3 _ l2 hG2.out l3 hG3.out).mono ?_
      rintro x w3 ⟨rfl, hb⟩
      have hB3 := Lib.hid (hB2.out.trans (hb.mono hB2.out.size))
      have hC3 := Lib.hid ((hb.block _ hS2).trans hC2.out)
      have hS3 := Nat.lt_of_lt_of_le hS2 hb.size
      clear k0 k1
      have k0 := (cell_of_heap (j := 0) hC3.out).trans rfl
      have k1 := (cell_of_heap (j := 1) hC3.out).trans rfl
      clear hb hB2 hC2 hS2 hG2 hG3 l2 l3
      go_wp2_with fail
      have hPa := Lib.hid (parse_E hp w3 (hMx.out _ hB3.out))
      clear hp
      refine hPa.out.mono ?_
      rintro x w4 ⟨A4, c4, A5, c5, rfl, l4, g4, l5, g5, hb⟩
      have hB4 := Lib.hid (hB3.out.trans (hb.mono hB3.out.size))
      have hC4 := Lib.hid ((hb.block _ hS3).trans hC3.out)
      have hS4 := Nat.lt_of_lt_of_le hS3 hb.size
      have hG4 := Lib.hid g4
      have hG5 := Lib.hid g5
      clear k0 k1
      have k0 := (cell_of_heap (j := 0) hC4.out).trans rfl
      have k1 := (cell_of_heap (j := 1) hC4.out).trans rfl
      clear hb hB3 hC3 hS3 g4 g5 hPa
      clear k0 k1
      have hN5 : Hid ((w4.alloc (.cells #[.slice A4 e.length c4, .slice A5 d.length c5] 32)).heap[w4.heap.size]? = some (.cells #[.slice A4 e.length c4, .slice A5 d.length c5] 32 (0, 0))) := heap_alloc_new _ _
      have hC5 : Hid ((w4.alloc (.cells #[.slice A4 e.length c4, .slice A5 d.length c5] 32)).heap[w.heap.size]? = some (.cells #[.slice A0 e.length c0, .slice A1 d.length c1] 25 (0, 0))) := Lib.hid ((heapAt_lt (lt_blk hC4.out)).trans hC4.out)
      have hB5 : Hid (Below w4.heap.size w4 (w4.alloc (.cells #[.slice A4 e.length c4, .slice A5 d.length c5] 32))) := Lib.hid (by (repeat (first | exact Below.refl _ _ | refine Below.drew ?_ | refine Below.setCell ?_ (by simp <;> omega) _ | refine Below.alloc ?_ (by simp <;> omega) _)))
      go_upto_region 7 with (fail)
      generalize w4.alloc (.cells #[.slice A4 e.length c4, .slice A5 d.length c5] 32) = w5 at *
      have hBw5 := Lib.hid (hB4.out.trans (hB5.out.mono hB4.out.size))
      have hT := Lib.hid (fun W (hW : Below w5.heap.size w5 W) => told_E e d A4 A5 c4 c5 W l4 (Kd.C_below hG4.out (hB5.out.trans (hW.mono hB5.out.size))) hn)
      have hR5 := Lib.hid (fun W (hW : Below w5.heap.size w5 W) => Kd.C_below hG5.out (hB5.out.trans (hW.mono hB5.out.size)))
      have hR0 := Lib.hid (fun W (hW : Below w5.heap.size w5 W) => hG0.out W (hBw5.out.trans (hW.mono hBw5.out.size)))
      have hR1 := Lib.hid (fun W (hW : Below w5.heap.size w5 W) => hG1.out W (hBw5.out.trans (hW.mono hBw5.out.size)))
      have hSS := Lib.hid (fun W (hW : Below w5.heap.size w5 W) => (⟨(cell_of_heap (j := 0) ((hW.block _ (lt_blk hN5.out)).trans hN5.out)).trans rfl, (cell_of_heap (j := 1) ((hW.block _ (lt_blk hN5.out)).trans hN5.out)).trans rfl, (cell_of_heap (j := 0) ((hW.block _ (lt_blk hC5.out)).trans hC5.out)).trans rfl, (cell_of_heap (j := 1) ((hW.block _ (lt_blk hC5.out)).trans hC5.out)).trans rfl⟩ : (fun w' => w'.cell? ⟨w4.heap.size, 0, none⟩ = some (.slice A4 e.length c4) ∧ w'.cell? ⟨w4.heap.size, 1, none⟩ = some (.slice A5 d.length c5) ∧ w'.cell? ⟨w.heap.size, 0, none⟩ = some (.slice A0 e.length c0) ∧ w'.cell? ⟨w.heap.size, 1, none⟩ = some (.slice A1 d.length c1)) W))
      refine RegP.regionH (fun w' => w'.cell? ⟨w4.heap.size, 0, none⟩ = some (.slice A4 e.length c4) ∧ w'.cell? ⟨w4.heap.size, 1, none⟩ = some (.slice A5 d.length c5) ∧ w'.cell? ⟨w.heap.size, 0, none⟩ = some (.slice A0 e.length c0) ∧ w'.cell? ⟨w.heap.size, 1, none⟩ = some (.slice A1 d.length c1)) [(1, 0), (1, 2), (2, 1), (2, 3), (0, 4), (0, 5), (0, 6), (0, 7), (0, 8), (0, 9), (0, 10), (0, 11), (0, 12), (2, 13), (0, 14), (0, 15)] (by kernel_rfl) (by kernel_rfl) (by rfl) (by kernel_rfl) (by exact hSS.out _ (Below.refl _ _).drew) ?_
      refine RegP.held1 (by (simp only [gA,gB,gC]); rfl) (by exact fun _ _ _ h => h) (by rfl) (by intro w' hS_; (try dsimp only at hS_); go_split_ands; go_simp; try with_reducible rfl) ?_
      try simp only [Act.put, pA,pB,pC]
      refine RegP.held1 (by (simp only [gA,gB,gC]); rfl) (by exact fun _ _ _ h => h) (by rfl) (by intro w' hS_; (try dsimp only at hS_); go_split_ands; go_simp; try with_reducible rfl) ?_
      try simp only [Act.put, pA,pB,pC]
      refine RegP.ev1 (by (simp only [gA,gB,gC]); rfl) (fun K hK => ?_)
      go_simp
      refine (hT.out _ (Below.refl _ _).drew).mono ?_
      rintro x w6 ⟨B0, d0, rfl, m0, p0, hb⟩
      have hB6 := Lib.hid (((Below.refl w5.heap.size w5).drew).trans hb)
      have hP0 := Lib.hid p0
      have hM0 := Lib.hid m0
      clear p0 m0 hb
      refine hK.out _ _ ?_ (fun hHeld => ?_)
      · (try dsimp only); exact hSS.out _ hB6.out
      clear hK K
      try simp only [Act.put, pA,pB,pC]
      refine RegP.ev1 (by (simp only [gA,gB,gC]); rfl) (fun K hK => ?_)
      go_simp
      refine (same_C e d B0 A5 A0 A1 d0 c5 c0 c1 w6 hM0.out hP0.out l5 (hR5.out _ hB6.out) h0 (hR0.out _ hB6.out) h1 (hR1.out _ hB6.out)).mono ?_
      rintro x w7 ⟨rfl, hb⟩
      have hB7 := Lib.hid (hB6.out.trans (hb.mono hB6.out.size))
      clear hb
      refine hK.out _ _ ?_ (fun hHeld => ?_)
      · (try dsimp only); exact hSS.out _ hB7.out
      clear hK K
      try simp only [Act.put, pA,pB,pC]
      refine RegP.pure1 (by (simp only [gA,gB,gC]); rfl) (by exact fun _ _ _ h => h) (by rfl) (by intro w'; go_simp; try with_reducible rfl) ?_
      try simp only [Act.put, pA,pB,pC]
      refine RegP.pure1 (by (simp only [gA,gB,gC]); rfl) (by exact fun _ _ _ h => h) (by rfl) (by intro w'; go_simp; try with_reducible rfl) ?_
      try simp only [Act.put, pA,pB,pC]
      refine RegP.pure1 (by (simp only [gA,gB,gC]); rfl) (by exact fun _ _ _ h => h) (by rfl) (by intro w'; go_simp; try with_reducible rfl) ?_
      try simp only [Act.put, pA,pB,pC]
      refine RegP.pure1 (by (simp only [gA,gB,gC]); rfl) (by exact fun _ _ _ h => h) (by rfl) (by intro w'; go_simp; try with_reducible rfl) ?_
      try simp only [Act.put, pA,pB,pC]
      refine RegP.pure1 (by (simp only [gA,gB,gC]); rfl) (by exact fun _ _ _ h => h) (by rfl) (by intro w'; go_simp; try with_reducible rfl) ?_
      try simp only [Act.put, pA,pB,pC]
      refine RegP.pure1 (by (simp only [gA,gB,gC]); rfl) (by exact fun _ _ _ h => h) (by rfl) (by intro w'; go_simp; try with_reducible rfl) ?_
      try simp only [Act.put, pA,pB,pC]
      refine RegP.pure1 (by (simp only [gA,gB,gC]); rfl) (by exact fun _ _ _ h => h) (by rfl) (by intro w'; go_simp; try with_reducible rfl) ?_
      try simp only [Act.put, pA,pB,pC]
      refine RegP.pure1 (by (simp only [gA,gB,gC]); rfl) (by exact fun _ _ _ h => h) (by rfl) (by intro w'; go_simp; try with_reducible rfl) ?_
      try simp only [Act.put, pA,pB,pC]
      refine RegP.pure1 (by (simp only [gA,gB,gC]); rfl) (by exact fun _ _ _ h => h) (by rfl) (by intro w'; go_simp; try with_reducible rfl) ?_
      try simp only [Act.put, pA,pB,pC]
      refine RegP.ev1 (by (simp only [gA,gB,gC]); rfl) (fun K hK => ?_)
      go_simp
      refine (hAw.out _).mono ?_
      rintro x w8 ⟨rfl, hb⟩
      have hB8 := Lib.hid (hB7.out.trans (hb.mono hB7.out.size))
      clear hb
      refine hK.out _ _ ?_ (fun hHeld => ?_)
      · (try dsimp only); exact hSS.out _ hB8.out
      clear hK K
      try simp only [Act.put, pA,pB,pC]
      refine RegP.pure1 (by (simp only [gA,gB,gC]); rfl) (by exact fun _ _ _ h => h) (by rfl) (by intro w'; go_simp; try with_reducible rfl) ?_
      try simp only [Act.put, pA,pB,pC]
      refine RegP.pure1 (by (simp only [gA,gB,gC]); rfl) (by exact fun _ _ _ h => h) (by rfl) (by intro w'; go_simp; try with_reducible rfl) ?_
      try simp only [Act.put, pA,pB,pC]
      refine RegP.done1 ?_
      clear hHeld
      try dsimp only
      go_wp2_with fail
      go_ret
      exact ⟨rfl, hBw5.out.trans (hB8.out.mono hBw5.out.size)⟩
    · go_enter Tryz.func3, Tryz.ntmps3
      go_wp2_with fail
      generalize w.alloc (.cells #[.slice A0 e.length c0, .slice A1 d.length c1] 25) = wa at *
      refine (hFew.out _ hBox.out).mono ?_
      rintro x w1 ⟨rfl, hb⟩
      have hB1 := Lib.hid (hBox.out.trans (hb.mono hBox.out.size))
      have hC1 := Lib.hid ((hb.block _ hSz0).trans hCell.out)
      have hS1 := Nat.lt_of_lt_of_le hSz0 hb.size
      have k0 := (cell_of_heap (j := 0) hC1.out).trans rfl
      have k1 := (cell_of_heap (j := 1) hC1.out).trans rfl
      clear hb hBox hCell hSz0
      go_wp2_with fail
      refine (hOf.out _ hB1.out).mono ?_
      rintro x w2 ⟨A2, c2, A3, c3, rfl, ⟨l2, g2⟩, ⟨l3, g3⟩, hb⟩
      have hB2 := Lib.hid (hB1.out.trans (hb.mono hB1.out.size))
      have hC2 := Lib.hid ((hb.block _ hS1).trans hC1.out)
      have hS2 := Nat.lt_of_lt_of_le hS1 hb.size
      have hG2 := Lib.hid g2
      have hG3 := Lib.hid g3
      clear k0 k1
      have k0 := (cell_of_heap (j := 0) hC2.out).trans rfl
      have k1 := (cell_of_heap (j := 1) hC2.out).trans rfl
      clear hb hB1 hC1 hS1 g2 g3
      go_wp2_with fail
      refine (hPr.out A2 A3 c2 c3 _ l2 hG2.out l3 hG3.out).mono ?_
      rintro x w3 ⟨rfl, hb⟩
      have hB3 := Lib.hid (hB2.out.trans (hb.mono hB2.out.size))
      have hC3 := Lib.hid ((hb.block _ hS2).trans hC2.out)
      have hS3 := Nat.lt_of_lt_of_le hS2 hb.size
      clear k0 k1
      have k0 := (cell_of_heap (j := 0) hC3.out).trans rfl
      have k1 := (cell_of_heap (j := 1) hC3.out).trans rfl
      clear hb hB2 hC2 hS2 hG2 hG3 l2 l3
      go_wp2_with fail
      refine (hAw.out _).mono ?_
      rintro x w4 ⟨rfl, hb⟩
      have hB4 := Lib.hid (hB3.out.trans (hb.mono hB3.out.size))
      clear hb hB3 hC3 hS3 k0 k1
      go_wp2_with fail
      go_ret
      exact ⟨rfl, hB4.out⟩
    · go_enter Tryz.func3, Tryz.ntmps3
      go_wp2_with fail
      generalize w.alloc (.cells #[.slice A0 e.length c0, .slice A1 d.length c1] 25) = wa at *
      refine (hFew.out _ hBox.out).mono ?_
      rintro x w1 ⟨rfl, hb⟩
      have hB1 := Lib.hid (hBox.out.trans (hb.mono hBox.out.size))
      have hC1 := Lib.hid ((hb.block _ hSz0).trans hCell.out)
      have hS1 := Nat.lt_of_lt_of_le hSz0 hb.size
      have k0 := (cell_of_heap (j := 0) hC1.out).trans rfl
      have k1 := (cell_of_heap (j := 1) hC1.out).trans rfl
      clear hb hBox hCell hSz0
      go_wp2_with fail
      refine (hOf.out _ hB1.out).mono ?_
      rintro x w2 ⟨A2, c2, A3, c3, rfl, ⟨l2, g2⟩, ⟨l3, g3⟩, hb⟩
      have hB2 := Lib.hid (hB1.out.trans (hb.mono hB1.out.size))
      have hC2 := Lib.hid ((hb.block _ hS1).trans hC1.out)
      have hS2 := Nat.lt_of_lt_of_le hS1 hb.size
      have hG2 := Lib.hid g2
      have hG3 := Lib.hid g3
      clear k0 k1
      have k0 := (cell_of_heap (j := 0) hC2.out).trans rfl
      have k1 := (cell_of_heap (j := 1) hC2.out).trans rfl
      clear hb hB1 hC1 hS1 g2 g3
      go_wp2_with fail
      refine (hPr.out A2 A3 c2 c3 _ l2 hG2.out l3 hG3.out).mono ?_
      rintro x w3 ⟨rfl, hb⟩
      have hB3 := Lib.hid (hB2.out.trans (hb.mono hB2.out.size))
      have hC3 := Lib.hid ((hb.block _ hS2).trans hC2.out)
      have hS3 := Nat.lt_of_lt_of_le hS2 hb.size
      clear k0 k1
      have k0 := (cell_of_heap (j := 0) hC3.out).trans rfl
      have k1 := (cell_of_heap (j := 1) hC3.out).trans rfl
      clear hb hB2 hC2 hS2 hG2 hG3 l2 l3
      go_wp2_with fail
      refine (hAw.out _).mono ?_
      rintro x w4 ⟨rfl, hb⟩
      have hB4 := Lib.hid (hB3.out.trans (hb.mono hB3.out.size))
      clear hb hB3 hC3 hS3 k0 k1
      go_wp2_with fail
      go_ret
      exact ⟨rfl, hB4.out⟩
theorem back_walk (cs : Array Value) (x : List SR × List ByteArray) (w : World) (hm : MaxCell w) (h : St.ManAt w cs x.1 x.2) :
    Calls Tryz.prog 3 #[.agg cs] w fun e w' => e = .returned (.bool true) ∧ Below w.heap.size w w' := by
  obtain ⟨A0, c0, A1, c1, rfl, h0, g0, h1, g1⟩ := h
  exact back x.1 x.2 A0 A1 c0 c1 w h0 g0 h1 g1 hm
end Go.Proofs.YtbjekebkgidhaaaGreatDoor.Of4
end
section
namespace Go.Proofs.YtbjekebkgidhaaaGreatDoor.printBack
open Go.ChangeShapes Go.WideShapes Go.ChangeAt Go.RowKit
open Go.ChangeMaps (open_string shut_string)
set_option linter.unusedVariables false
theorem own : ownKnob Tryz.prog.godebug = none := by kernel_rfl
theorem laidOut : laidOutB Tryz.prog = true := by kernel_rfl
set_option maxRecDepth 100000 in
theorem lifted (os : Os) (started : os.Started) (H : Type) (enc : TypeId × Value → H) :
    ReturnsInHanded {} Tryz.checked os 3 .any (fun w args => (Rows.printBackSpec.pre enc Tryz.prog Tryz.f3 Rows.printBackRow.domain false w args ∧ laidMetH Tryz.prog Rows.printBackRow.laid w) ∧ sizedMet enc Tryz.prog Tryz.f3 (OpenSpec.ofChange Rows.printBackSpec) false w args) (Rows.printBackSpec.post enc Tryz.prog Tryz.f3 false true false false) := by
  refine handed_and_shaped (enc := enc) (C := Tryz.checked) (X := fun w _ => laidMetH Tryz.prog Rows.printBackRow.laid w) (fun _ _ _ hh h => h.of_heap hh) own started (by kernel_rfl) Tryz.func3
    (ChangeSpec.witness_shaped (enc := enc) (C := Tryz.checked) (os := os) (X := fun w _ => laidMetH Tryz.prog Rows.printBackRow.laid w) false (World.laidAll Tryz.prog os Rows.printBackRow.laid) #[.agg #[.slice none 0 0, .slice none 0 0]] 8 (World.laidAll_os _ _ _)
      (World.shaped_of_ZipB (by kernel_rfl) (by kernel_rfl)) (by kernel_rfl) (by kernel_rfl) (by kernel_rfl)
      (by rw [MakeChecks.laidMetH_plain _ _ _ (by kernel_rfl)]; exact laidMet_laidAll _ (by kernel_rfl) (by kernel_rfl))) ?_
  intro W base args ds gs before hval0 hW hcnd hsz0 hL hsh
  have hsz : (DataW.weightsEach Tryz.prog (Tryz.f3.params.toList ++ Rows.printBackSpec.plain.varTypes Tryz.prog) (ds ++ gs)).all (· ≤ reachBytes) = true := hsz0
  have hval : ∀ (j : Nat) t v, Tryz.f3.params[j]? = some t → args[j]? = some v → Value.okWide Tryz.prog W .any base t v := hval0
  have hW' := hW
  obtain ⟨p, q, hA0, hV, rfl, hfz, hnd⟩ := hW
  have hA : DataW.TrodAll enc Tryz.prog W 0 (fun _ => true) true Tryz.f3.params.toList args.toList ds p := hA0
  rw [Tryz.params3] at hA hval hsz
  obtain ⟨v0, vs0, d0, ds0, p0, q0, hargs, rfl, rfl, h0, r0⟩ := trodAll_cons hA
  obtain ⟨rfl, rfl, rfl⟩ := trodAll_nil r0
  obtain rfl : args = #[v0] := by cases args; simp_all
  obtain ⟨rfl, rfl⟩ := trodVars_none hV
  obtain ⟨a0, rfl, z0⟩ := okWide_struct Tryz.underlying25 (hval 0 25 v0 rfl rfl)
  have k0 := h0
  have lt0 : ∀ x ∈ p0, x.block < W.heap.size := by obtain ⟨m, hm⟩ := k0; exact DataW.trod_lt m _ _ _ hm
  obtain ⟨l0, w0⟩ := St.man_open k0
  clear hA0 hval0 hsz0 hsz
  refine (Of4.back_walk a0 l0 W (MaxCell.of_shaped hsh) w0).mono fun e W' ⟨he, bel⟩ => ?_
  subst he
  exact ⟨_, rfl, _, _, _, [], _, [], hW', trodAll_mk1 (shut_bool Tryz.underlying4 _), (trodAll_cons_mk (Below.trod laidOut (by kernel_rfl) (of_decide_eq_true (by kernel_rfl)) k0 bel lt0) trodAll_mk0), rfl, bel.frame _, fun h => by cases h⟩
theorem over : Rows.printBackRow.holds Tryz.pinned (OpenSpec.ofChange Rows.printBackSpec) :=
  OpenClaim.holds_of_wide 3 Tryz.f3 rfl rfl rfl rfl rfl rfl rfl ⟨rfl, rfl, rfl, rfl, rfl⟩ rfl rfl rfl rfl rfl (by kernel_rfl) Tryz.func3 (by kernel_rfl)
    (of_decide_eq_true (by kernel_rfl)) (by unfold Func.isWrapper; first | (rw [if_pos (by decide +kernel)]; kernel_rfl) | (rw [if_neg (by decide +kernel)]; exact ⟨rfl, rfl⟩))
    (fun os started H enc _ => lifted os started H enc)
theorem card : Rows.PrintBackCardSaid :=
  Claim7.holds_tied_plain_at .later [] [.data, .data, .data, .data, .pinned] true (true, "3ee92b0241d4e6cc4ec6d7aa1c3f58a9ba40e9d2fdce97da6f0c63ea24f241e0") true over (fun _ h => by cases h) (by kernel_rfl) (fun _ h => by cases h) printBack_row_tie rfl ⟨rfl, rfl⟩ (by kernel_rfl) rfl
    (fun f fn hf hfn => by
      obtain rfl : f = 3 := Option.some.inj ((show Tryz.prog.funcNamed "bellows/bellowslaw12.PrintBack" = some 3 by kernel_rfl).symm.trans hf) |>.symm
      obtain rfl : fn = Tryz.f3 := (Option.some.inj (Tryz.func3.symm.trans hfn)).symm
      have hall : (Tryz.f3.params.toList.all fun u => !Tryz.prog.wantsStandIn u) = true := by kernel_rfl
      exact ⟨by kernel_rfl, fun j t ht => by
        have hm : t ∈ Tryz.f3.params.toList := by simpa using Array.mem_of_getElem? ht
        exact (show Tryz.prog.wantsStandIn t = false by simpa using List.all_eq_true.1 hall t hm)⟩)
    (by kernel_rfl)
#print axioms card
end Go.Proofs.YtbjekebkgidhaaaGreatDoor.printBack
namespace Go.Proofs.YtbjekebkgidhaaaGreatDoor
theorem printBack_card : Rows.PrintBackCardSaid := printBack.card
end Go.Proofs.YtbjekebkgidhaaaGreatDoor
end
